/-
  No cell of these rows narrows 'for every input' (looked for: loops, veiled, ifaces, maps, wideKeys, modest, calm, conditions, laid).
  DERIVED. THE GIVEN ROWS OF THIS SEAT. 11 by the template 'for every input the law returns true; each argument reads behind the call as it read before'; 0 by the template 'total and deterministic' (their statements: YtgpnmmgoachajaaTotals.lean).
  GIVEN WITH THE SEED: the statements are not yours to turn. If you find one false, say at which input.
  Laid BY PROGRAM, IN A SANDBOX (cutbox-rows.mjs): the forced cells as the released guide's own fill.sh prints them over the translation 212bea5b9fe1408b… (all of the seat's roots in one cut). By AI agents, Wed Nov 11 2026. No macro, syntax, notation, axiom, sorry.
-/
import Derived.Test.YtgpnmmgoachajaaChecked
import GoSem.Claim
import GoSem.ClaimJoined
import GoSem.ClaimMapViews
import Derived.JoinedTies
import Derived.KernelRfl
namespace Go.Proofs.Ytgpnmmgoachajaa
/- THE CELL 'sum', in the pinned program and in every row, IS THE sha256 OF THE DUMP (.gsa) THAT YtgpnmmgoachajaaProg.lean LOADS. Nothing in Lean hashes anything: it is a label: what it is worth is what the hold of that sum in a sandbox is worth. -/
noncomputable def Try.pinned : Pinned := { name := "ytgpnmmgoachajaa", sum := "212bea5b9fe1408bdccfeca096461d9ebe631eadee18b3325bcb2e3f4f7f1e0b", checked := Try.checked }
namespace Rows
def none {H : Type} : Left H := { results := [], args := [] }

/-- 'mothballlaw03.DiskKeeps': WHATEVER THE INPUT: true; the input reads as it did. -/
def diskKeepsSpec : ChangeSpec := { name := "diskKeeps", fn := fun _ => fun
  | [d1, d2] => { results := [.lit (.bool true)], args := [d1, d2] }
  | _ => none }
def diskKeepsRow : OpenClaim := { program := "ytgpnmmgoachajaa", sum := "212bea5b9fe1408bdccfeca096461d9ebe631eadee18b3325bcb2e3f4f7f1e0b", func := "mothball/mothballlaw03.DiskKeeps", spec := "diskKeeps", unfollowed := true, recurses := true, apart := false }
def DiskKeepsSaid : Prop := diskKeepsRow.holds Try.pinned (OpenSpec.ofChange diskKeepsSpec)

/-- ITS FALSE NEIGHBOUR: 'it returns false'. Refute it at one input. -/
def diskKeepsWrong : ChangeSpec := { name := "diskKeeps", fn := fun _ => fun
  | [d1, d2] => { results := [.lit (.bool false)], args := [d1, d2] }
  | _ => none }
def DiskKeepsWrongFalsely : Prop := diskKeepsRow.holds Try.pinned (OpenSpec.ofChange diskKeepsWrong)

/-- 'mothballlaw03.DiskOff': WHATEVER THE INPUT: true; the input reads as it did. -/
def diskOffSpec : ChangeSpec := { name := "diskOff", fn := fun _ => fun
  | [d1, d2] => { results := [.lit (.bool true)], args := [d1, d2] }
  | _ => none }
def diskOffRow : OpenClaim := { program := "ytgpnmmgoachajaa", sum := "212bea5b9fe1408bdccfeca096461d9ebe631eadee18b3325bcb2e3f4f7f1e0b", func := "mothball/mothballlaw03.DiskOff", spec := "diskOff", unfollowed := true, recurses := true, apart := false }
def DiskOffSaid : Prop := diskOffRow.holds Try.pinned (OpenSpec.ofChange diskOffSpec)

/-- ITS FALSE NEIGHBOUR: 'it returns false'. Refute it at one input. -/
def diskOffWrong : ChangeSpec := { name := "diskOff", fn := fun _ => fun
  | [d1, d2] => { results := [.lit (.bool false)], args := [d1, d2] }
  | _ => none }
def DiskOffWrongFalsely : Prop := diskOffRow.holds Try.pinned (OpenSpec.ofChange diskOffWrong)

/-- 'mothballlaw03.DiskTorn': WHATEVER THE INPUT: true; the input reads as it did. -/
def diskTornSpec : ChangeSpec := { name := "diskTorn", fn := fun _ => fun
  | [d1, d2, d3] => { results := [.lit (.bool true)], args := [d1, d2, d3] }
  | _ => none }
def diskTornRow : OpenClaim := { program := "ytgpnmmgoachajaa", sum := "212bea5b9fe1408bdccfeca096461d9ebe631eadee18b3325bcb2e3f4f7f1e0b", func := "mothball/mothballlaw03.DiskTorn", spec := "diskTorn", unfollowed := true, recurses := true, apart := false }
def DiskTornSaid : Prop := diskTornRow.holds Try.pinned (OpenSpec.ofChange diskTornSpec)

/-- ITS FALSE NEIGHBOUR: 'it returns false'. Refute it at one input. -/
def diskTornWrong : ChangeSpec := { name := "diskTorn", fn := fun _ => fun
  | [d1, d2, d3] => { results := [.lit (.bool false)], args := [d1, d2, d3] }
  | _ => none }
def DiskTornWrongFalsely : Prop := diskTornRow.holds Try.pinned (OpenSpec.ofChange diskTornWrong)

/-- 'mothballlaw03.DiskLoads': WHATEVER THE INPUT: true; the input reads as it did. -/
def diskLoadsSpec : ChangeSpec := { name := "diskLoads", fn := fun _ => fun
  | [d] => { results := [.lit (.bool true)], args := [d] }
  | _ => none }
def diskLoadsRow : OpenClaim := { program := "ytgpnmmgoachajaa", sum := "212bea5b9fe1408bdccfeca096461d9ebe631eadee18b3325bcb2e3f4f7f1e0b", func := "mothball/mothballlaw03.DiskLoads", spec := "diskLoads", unfollowed := true, recurses := true, apart := false }
def DiskLoadsSaid : Prop := diskLoadsRow.holds Try.pinned (OpenSpec.ofChange diskLoadsSpec)

/-- ITS FALSE NEIGHBOUR: 'it returns false'. Refute it at one input. -/
def diskLoadsWrong : ChangeSpec := { name := "diskLoads", fn := fun _ => fun
  | [d] => { results := [.lit (.bool false)], args := [d] }
  | _ => none }
def DiskLoadsWrongFalsely : Prop := diskLoadsRow.holds Try.pinned (OpenSpec.ofChange diskLoadsWrong)

/-- 'mothballlaw20.AreaRooms': WHATEVER THE INPUT: true; the input reads as it did. -/
def areaRoomsSpec : ChangeSpec := { name := "areaRooms", fn := fun _ => fun
  | [d1, d2] => { results := [.lit (.bool true)], args := [d1, d2] }
  | _ => none }
def areaRoomsRow : OpenClaim := { program := "ytgpnmmgoachajaa", sum := "212bea5b9fe1408bdccfeca096461d9ebe631eadee18b3325bcb2e3f4f7f1e0b", func := "mothball/mothballlaw20.AreaRooms", spec := "areaRooms", unfollowed := true, recurses := true, apart := false }
def AreaRoomsSaid : Prop := areaRoomsRow.holds Try.pinned (OpenSpec.ofChange areaRoomsSpec)

/-- ITS FALSE NEIGHBOUR: 'it returns false'. Refute it at one input. -/
def areaRoomsWrong : ChangeSpec := { name := "areaRooms", fn := fun _ => fun
  | [d1, d2] => { results := [.lit (.bool false)], args := [d1, d2] }
  | _ => none }
def AreaRoomsWrongFalsely : Prop := areaRoomsRow.holds Try.pinned (OpenSpec.ofChange areaRoomsWrong)

/-- 'mothballlaw20.AreaTurns': WHATEVER THE INPUT: true; the input reads as it did. -/
def areaTurnsSpec : ChangeSpec := { name := "areaTurns", fn := fun _ => fun
  | [d1, d2, d3] => { results := [.lit (.bool true)], args := [d1, d2, d3] }
  | _ => none }
def areaTurnsRow : OpenClaim := { program := "ytgpnmmgoachajaa", sum := "212bea5b9fe1408bdccfeca096461d9ebe631eadee18b3325bcb2e3f4f7f1e0b", func := "mothball/mothballlaw20.AreaTurns", spec := "areaTurns", unfollowed := true, recurses := true, apart := false }
def AreaTurnsSaid : Prop := areaTurnsRow.holds Try.pinned (OpenSpec.ofChange areaTurnsSpec)

/-- ITS FALSE NEIGHBOUR: 'it returns false'. Refute it at one input. -/
def areaTurnsWrong : ChangeSpec := { name := "areaTurns", fn := fun _ => fun
  | [d1, d2, d3] => { results := [.lit (.bool false)], args := [d1, d2, d3] }
  | _ => none }
def AreaTurnsWrongFalsely : Prop := areaTurnsRow.holds Try.pinned (OpenSpec.ofChange areaTurnsWrong)

/-- 'mothballlaw20.AreaTorn': WHATEVER THE INPUT: true; the input reads as it did. -/
def areaTornSpec : ChangeSpec := { name := "areaTorn", fn := fun _ => fun
  | [d1, d2] => { results := [.lit (.bool true)], args := [d1, d2] }
  | _ => none }
def areaTornRow : OpenClaim := { program := "ytgpnmmgoachajaa", sum := "212bea5b9fe1408bdccfeca096461d9ebe631eadee18b3325bcb2e3f4f7f1e0b", func := "mothball/mothballlaw20.AreaTorn", spec := "areaTorn", unfollowed := true, recurses := true, apart := false }
def AreaTornSaid : Prop := areaTornRow.holds Try.pinned (OpenSpec.ofChange areaTornSpec)

/-- ITS FALSE NEIGHBOUR: 'it returns false'. Refute it at one input. -/
def areaTornWrong : ChangeSpec := { name := "areaTorn", fn := fun _ => fun
  | [d1, d2] => { results := [.lit (.bool false)], args := [d1, d2] }
  | _ => none }
def AreaTornWrongFalsely : Prop := areaTornRow.holds Try.pinned (OpenSpec.ofChange areaTornWrong)

/-- 'mothballlaw07.JournalFits': WHATEVER THE INPUT: true; the input reads as it did. -/
def journalFitsSpec : ChangeSpec := { name := "journalFits", fn := fun _ => fun
  | [d1, d2] => { results := [.lit (.bool true)], args := [d1, d2] }
  | _ => none }
def journalFitsRow : OpenClaim := { program := "ytgpnmmgoachajaa", sum := "212bea5b9fe1408bdccfeca096461d9ebe631eadee18b3325bcb2e3f4f7f1e0b", func := "mothball/mothballlaw07.JournalFits", spec := "journalFits", unfollowed := true, recurses := true, apart := false }
def JournalFitsSaid : Prop := journalFitsRow.holds Try.pinned (OpenSpec.ofChange journalFitsSpec)

/-- ITS FALSE NEIGHBOUR: 'it returns false'. Refute it at one input. -/
def journalFitsWrong : ChangeSpec := { name := "journalFits", fn := fun _ => fun
  | [d1, d2] => { results := [.lit (.bool false)], args := [d1, d2] }
  | _ => none }
def JournalFitsWrongFalsely : Prop := journalFitsRow.holds Try.pinned (OpenSpec.ofChange journalFitsWrong)

/-- 'mothballlaw07.JournalElder': WHATEVER THE INPUT: true; the input reads as it did. -/
def journalElderSpec : ChangeSpec := { name := "journalElder", fn := fun _ => fun
  | [d1, d2, d3] => { results := [.lit (.bool true)], args := [d1, d2, d3] }
  | _ => none }
def journalElderRow : OpenClaim := { program := "ytgpnmmgoachajaa", sum := "212bea5b9fe1408bdccfeca096461d9ebe631eadee18b3325bcb2e3f4f7f1e0b", func := "mothball/mothballlaw07.JournalElder", spec := "journalElder", unfollowed := true, recurses := true, apart := false }
def JournalElderSaid : Prop := journalElderRow.holds Try.pinned (OpenSpec.ofChange journalElderSpec)

/-- ITS FALSE NEIGHBOUR: 'it returns false'. Refute it at one input. -/
def journalElderWrong : ChangeSpec := { name := "journalElder", fn := fun _ => fun
  | [d1, d2, d3] => { results := [.lit (.bool false)], args := [d1, d2, d3] }
  | _ => none }
def JournalElderWrongFalsely : Prop := journalElderRow.holds Try.pinned (OpenSpec.ofChange journalElderWrong)

/-- 'mothballlaw07.JournalRound': WHATEVER THE INPUT: true; the input reads as it did. -/
def journalRoundSpec : ChangeSpec := { name := "journalRound", fn := fun _ => fun
  | [d1, d2] => { results := [.lit (.bool true)], args := [d1, d2] }
  | _ => none }
def journalRoundRow : OpenClaim := { program := "ytgpnmmgoachajaa", sum := "212bea5b9fe1408bdccfeca096461d9ebe631eadee18b3325bcb2e3f4f7f1e0b", func := "mothball/mothballlaw07.JournalRound", spec := "journalRound", unfollowed := true, recurses := true, apart := false }
def JournalRoundSaid : Prop := journalRoundRow.holds Try.pinned (OpenSpec.ofChange journalRoundSpec)

/-- ITS FALSE NEIGHBOUR: 'it returns false'. Refute it at one input. -/
def journalRoundWrong : ChangeSpec := { name := "journalRound", fn := fun _ => fun
  | [d1, d2] => { results := [.lit (.bool false)], args := [d1, d2] }
  | _ => none }
def JournalRoundWrongFalsely : Prop := journalRoundRow.holds Try.pinned (OpenSpec.ofChange journalRoundWrong)

/-- 'mothballlaw07.JournalCrashes': WHATEVER THE INPUT: true; the input reads as it did. -/
def journalCrashesSpec : ChangeSpec := { name := "journalCrashes", fn := fun _ => fun
  | [d1, d2] => { results := [.lit (.bool true)], args := [d1, d2] }
  | _ => none }
def journalCrashesRow : OpenClaim := { program := "ytgpnmmgoachajaa", sum := "212bea5b9fe1408bdccfeca096461d9ebe631eadee18b3325bcb2e3f4f7f1e0b", func := "mothball/mothballlaw07.JournalCrashes", spec := "journalCrashes", unfollowed := true, recurses := true, apart := false }
def JournalCrashesSaid : Prop := journalCrashesRow.holds Try.pinned (OpenSpec.ofChange journalCrashesSpec)

/-- ITS FALSE NEIGHBOUR: 'it returns false'. Refute it at one input. -/
def journalCrashesWrong : ChangeSpec := { name := "journalCrashes", fn := fun _ => fun
  | [d1, d2] => { results := [.lit (.bool false)], args := [d1, d2] }
  | _ => none }
def JournalCrashesWrongFalsely : Prop := journalCrashesRow.holds Try.pinned (OpenSpec.ofChange journalCrashesWrong)

/- THE SECOND FORM. 'bulk': how many values and letters a reading holds, each counted each time it is reached (what is shared counts as often as it is met; a slice's spare places count too). A statement '..UptoSaid' is the law's where the arguments, and the package variables that the reading takes, are together of bulk at most 1048576: NARROWER than '..Said'. Prove '..Said' where nothing that the law and all that it calls make is longer than what came in: it says more and counts as full. Else prove '..UptoSaid'. A law counts once. -/
mutual
def uptoBulk {H : Type} : DataW H → Nat
  | .lit (.string bytes) => bytes.length + 1
  | .lit _ => 1
  | .nil => 1
  | .ptr d => uptoBulk d + 1
  | .slice elems spare => uptoBulkAll elems + uptoBulkAll spare + 1
  | .agg parts => uptoBulkAll parts + 1
  | .iface _ d => uptoBulk d + 1
  | .map entries => uptoBulkEntries entries + 1
  | .held _ => 1
def uptoBulkAll {H : Type} : List (DataW H) → Nat
  | [] => 0
  | d :: r => uptoBulk d + uptoBulkAll r
def uptoBulkEntries {H : Type} : List (Lit × DataW H) → Nat
  | [] => 0
  | x :: r => uptoBulkEntry x + uptoBulkEntries r
def uptoBulkEntry {H : Type} : Lit × DataW H → Nat
  | (.string bytes, d) => bytes.length + uptoBulk d + 1
  | (_, d) => uptoBulk d + 1
 end
def uptoSmall : (H : Type) → List (DataW H) → Bool := fun _ ds => decide (uptoBulkAll ds ≤ 1048576)
def OpenSpec.upto (s : _root_.Go.ChangeSpec) : _root_.Go.OpenSpec := { _root_.Go.OpenSpec.ofChange s with cond := some uptoSmall }

/-- 'mothballlaw03.DiskKeeps', WHERE WHAT IT READS IS OF BULK AT MOST 1048576: true; the input reads as it did. -/
def diskKeepsUptoRow : OpenClaim := { program := "ytgpnmmgoachajaa", sum := "212bea5b9fe1408bdccfeca096461d9ebe631eadee18b3325bcb2e3f4f7f1e0b", func := "mothball/mothballlaw03.DiskKeeps", spec := "diskKeeps", unfollowed := true, recurses := true, apart := false, narrowed := true }
def DiskKeepsUptoSaid : Prop := diskKeepsUptoRow.holds Try.pinned (OpenSpec.upto diskKeepsSpec)

/-- 'mothballlaw03.DiskOff', WHERE WHAT IT READS IS OF BULK AT MOST 1048576: true; the input reads as it did. -/
def diskOffUptoRow : OpenClaim := { program := "ytgpnmmgoachajaa", sum := "212bea5b9fe1408bdccfeca096461d9ebe631eadee18b3325bcb2e3f4f7f1e0b", func := "mothball/mothballlaw03.DiskOff", spec := "diskOff", unfollowed := true, recurses := true, apart := false, narrowed := true }
def DiskOffUptoSaid : Prop := diskOffUptoRow.holds Try.pinned (OpenSpec.upto diskOffSpec)

/-- 'mothballlaw03.DiskTorn', WHERE WHAT IT READS IS OF BULK AT MOST 1048576: true; the input reads as it did. -/
def diskTornUptoRow : OpenClaim := { program := "ytgpnmmgoachajaa", sum := "212bea5b9fe1408bdccfeca096461d9ebe631eadee18b3325bcb2e3f4f7f1e0b", func := "mothball/mothballlaw03.DiskTorn", spec := "diskTorn", unfollowed := true, recurses := true, apart := false, narrowed := true }
def DiskTornUptoSaid : Prop := diskTornUptoRow.holds Try.pinned (OpenSpec.upto diskTornSpec)

/-- 'mothballlaw03.DiskLoads', WHERE WHAT IT READS IS OF BULK AT MOST 1048576: true; the input reads as it did. -/
def diskLoadsUptoRow : OpenClaim := { program := "ytgpnmmgoachajaa", sum := "212bea5b9fe1408bdccfeca096461d9ebe631eadee18b3325bcb2e3f4f7f1e0b", func := "mothball/mothballlaw03.DiskLoads", spec := "diskLoads", unfollowed := true, recurses := true, apart := false, narrowed := true }
def DiskLoadsUptoSaid : Prop := diskLoadsUptoRow.holds Try.pinned (OpenSpec.upto diskLoadsSpec)

/-- 'mothballlaw20.AreaRooms', WHERE WHAT IT READS IS OF BULK AT MOST 1048576: true; the input reads as it did. -/
def areaRoomsUptoRow : OpenClaim := { program := "ytgpnmmgoachajaa", sum := "212bea5b9fe1408bdccfeca096461d9ebe631eadee18b3325bcb2e3f4f7f1e0b", func := "mothball/mothballlaw20.AreaRooms", spec := "areaRooms", unfollowed := true, recurses := true, apart := false, narrowed := true }
def AreaRoomsUptoSaid : Prop := areaRoomsUptoRow.holds Try.pinned (OpenSpec.upto areaRoomsSpec)

/-- 'mothballlaw20.AreaTurns', WHERE WHAT IT READS IS OF BULK AT MOST 1048576: true; the input reads as it did. -/
def areaTurnsUptoRow : OpenClaim := { program := "ytgpnmmgoachajaa", sum := "212bea5b9fe1408bdccfeca096461d9ebe631eadee18b3325bcb2e3f4f7f1e0b", func := "mothball/mothballlaw20.AreaTurns", spec := "areaTurns", unfollowed := true, recurses := true, apart := false, narrowed := true }
def AreaTurnsUptoSaid : Prop := areaTurnsUptoRow.holds Try.pinned (OpenSpec.upto areaTurnsSpec)

/-- 'mothballlaw20.AreaTorn', WHERE WHAT IT READS IS OF BULK AT MOST 1048576: true; the input reads as it did. -/
def areaTornUptoRow : OpenClaim := { program := "ytgpnmmgoachajaa", sum := "212bea5b9fe1408bdccfeca096461d9ebe631eadee18b3325bcb2e3f4f7f1e0b", func := "mothball/mothballlaw20.AreaTorn", spec := "areaTorn", unfollowed := true, recurses := true, apart := false, narrowed := true }
def AreaTornUptoSaid : Prop := areaTornUptoRow.holds Try.pinned (OpenSpec.upto areaTornSpec)

/-- 'mothballlaw07.JournalFits', WHERE WHAT IT READS IS OF BULK AT MOST 1048576: true; the input reads as it did. -/
def journalFitsUptoRow : OpenClaim := { program := "ytgpnmmgoachajaa", sum := "212bea5b9fe1408bdccfeca096461d9ebe631eadee18b3325bcb2e3f4f7f1e0b", func := "mothball/mothballlaw07.JournalFits", spec := "journalFits", unfollowed := true, recurses := true, apart := false, narrowed := true }
def JournalFitsUptoSaid : Prop := journalFitsUptoRow.holds Try.pinned (OpenSpec.upto journalFitsSpec)

/-- 'mothballlaw07.JournalElder', WHERE WHAT IT READS IS OF BULK AT MOST 1048576: true; the input reads as it did. -/
def journalElderUptoRow : OpenClaim := { program := "ytgpnmmgoachajaa", sum := "212bea5b9fe1408bdccfeca096461d9ebe631eadee18b3325bcb2e3f4f7f1e0b", func := "mothball/mothballlaw07.JournalElder", spec := "journalElder", unfollowed := true, recurses := true, apart := false, narrowed := true }
def JournalElderUptoSaid : Prop := journalElderUptoRow.holds Try.pinned (OpenSpec.upto journalElderSpec)

/-- 'mothballlaw07.JournalRound', WHERE WHAT IT READS IS OF BULK AT MOST 1048576: true; the input reads as it did. -/
def journalRoundUptoRow : OpenClaim := { program := "ytgpnmmgoachajaa", sum := "212bea5b9fe1408bdccfeca096461d9ebe631eadee18b3325bcb2e3f4f7f1e0b", func := "mothball/mothballlaw07.JournalRound", spec := "journalRound", unfollowed := true, recurses := true, apart := false, narrowed := true }
def JournalRoundUptoSaid : Prop := journalRoundUptoRow.holds Try.pinned (OpenSpec.upto journalRoundSpec)

/-- 'mothballlaw07.JournalCrashes', WHERE WHAT IT READS IS OF BULK AT MOST 1048576: true; the input reads as it did. -/
def journalCrashesUptoRow : OpenClaim := { program := "ytgpnmmgoachajaa", sum := "212bea5b9fe1408bdccfeca096461d9ebe631eadee18b3325bcb2e3f4f7f1e0b", func := "mothball/mothballlaw07.JournalCrashes", spec := "journalCrashes", unfollowed := true, recurses := true, apart := false, narrowed := true }
def JournalCrashesUptoSaid : Prop := journalCrashesUptoRow.holds Try.pinned (OpenSpec.upto journalCrashesSpec)

end Rows
end Go.Proofs.Ytgpnmmgoachajaa
