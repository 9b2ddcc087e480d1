/-
  No cell of these rows narrows 'for every input' (looked for: loops, veiled, ifaces, maps, wideKeys, modest, calm, conditions, laid).
  DERIVED. THE GIVEN ROWS OF THIS SEAT. 12 by the template 'for every input the law returns true; each argument reads behind the call as it read before'; 0 by the template 'total and deterministic' (their statements: YtghkkhafnkkomaaTotals.lean).
  GIVEN WITH THE SEED: the statements are not yours to turn. If you find one false, say at which input.
  Laid BY PROGRAM, IN A SANDBOX (cutbox-rows.mjs): the forced cells as the released guide's own fill.sh prints them over the translation 94e5c07ef50918ec… (all of the seat's roots in one cut). By AI agents, Wed Nov 11 2026. No macro, syntax, notation, axiom, sorry.
-/
import Derived.Test.YtghkkhafnkkomaaChecked
import GoSem.Claim
import GoSem.ClaimJoined
import GoSem.ClaimMapViews
import Derived.JoinedTies
import Derived.KernelRfl
namespace Go.Proofs.Ytghkkhafnkkomaa
/- THE CELL 'sum', in the pinned program and in every row, IS THE sha256 OF THE DUMP (.gsa) THAT YtghkkhafnkkomaaProg.lean LOADS. Nothing in Lean hashes anything: it is a label: what it is worth is what the hold of that sum in a sandbox is worth. -/
noncomputable def Try.pinned : Pinned := { name := "ytghkkhafnkkomaa", sum := "94e5c07ef50918ec4d3406a72efbf454211eb658a4f6f861721947c7b48e1333", checked := Try.checked }
namespace Rows
def none {H : Type} : Left H := { results := [], args := [] }

/-- 'mothballlaw22.TwolistSpares': WHATEVER THE INPUT: true; the input reads as it did. -/
def twolistSparesSpec : ChangeSpec := { name := "twolistSpares", fn := fun _ => fun
  | [d1, d2, d3] => { results := [.lit (.bool true)], args := [d1, d2, d3] }
  | _ => none }
def twolistSparesRow : OpenClaim := { program := "ytghkkhafnkkomaa", sum := "94e5c07ef50918ec4d3406a72efbf454211eb658a4f6f861721947c7b48e1333", func := "mothball/mothballlaw22.TwolistSpares", spec := "twolistSpares", unfollowed := true, recurses := true, apart := false }
def TwolistSparesSaid : Prop := twolistSparesRow.holds Try.pinned (OpenSpec.ofChange twolistSparesSpec)

/-- ITS FALSE NEIGHBOUR: 'it returns false'. Refute it at one input. -/
def twolistSparesWrong : ChangeSpec := { name := "twolistSpares", fn := fun _ => fun
  | [d1, d2, d3] => { results := [.lit (.bool false)], args := [d1, d2, d3] }
  | _ => none }
def TwolistSparesWrongFalsely : Prop := twolistSparesRow.holds Try.pinned (OpenSpec.ofChange twolistSparesWrong)

/-- 'mothballlaw04.PackZigs': WHATEVER THE INPUT: true; the input reads as it did. -/
def packZigsSpec : ChangeSpec := { name := "packZigs", fn := fun _ => fun
  | [d1, d2] => { results := [.lit (.bool true)], args := [d1, d2] }
  | _ => none }
def packZigsRow : OpenClaim := { program := "ytghkkhafnkkomaa", sum := "94e5c07ef50918ec4d3406a72efbf454211eb658a4f6f861721947c7b48e1333", func := "mothball/mothballlaw04.PackZigs", spec := "packZigs", unfollowed := true, recurses := true, apart := false }
def PackZigsSaid : Prop := packZigsRow.holds Try.pinned (OpenSpec.ofChange packZigsSpec)

/-- ITS FALSE NEIGHBOUR: 'it returns false'. Refute it at one input. -/
def packZigsWrong : ChangeSpec := { name := "packZigs", fn := fun _ => fun
  | [d1, d2] => { results := [.lit (.bool false)], args := [d1, d2] }
  | _ => none }
def PackZigsWrongFalsely : Prop := packZigsRow.holds Try.pinned (OpenSpec.ofChange packZigsWrong)

/-- 'mothballlaw22.TwolistActs': WHATEVER THE INPUT: true; the input reads as it did. -/
def twolistActsSpec : ChangeSpec := { name := "twolistActs", fn := fun _ => fun
  | [d1, d2] => { results := [.lit (.bool true)], args := [d1, d2] }
  | _ => none }
def twolistActsRow : OpenClaim := { program := "ytghkkhafnkkomaa", sum := "94e5c07ef50918ec4d3406a72efbf454211eb658a4f6f861721947c7b48e1333", func := "mothball/mothballlaw22.TwolistActs", spec := "twolistActs", unfollowed := true, recurses := true, apart := false }
def TwolistActsSaid : Prop := twolistActsRow.holds Try.pinned (OpenSpec.ofChange twolistActsSpec)

/-- ITS FALSE NEIGHBOUR: 'it returns false'. Refute it at one input. -/
def twolistActsWrong : ChangeSpec := { name := "twolistActs", fn := fun _ => fun
  | [d1, d2] => { results := [.lit (.bool false)], args := [d1, d2] }
  | _ => none }
def TwolistActsWrongFalsely : Prop := twolistActsRow.holds Try.pinned (OpenSpec.ofChange twolistActsWrong)

/-- 'mothballlaw22.TwolistAll': WHATEVER THE INPUT: true; the input reads as it did. -/
def twolistAllSpec : ChangeSpec := { name := "twolistAll", fn := fun _ => fun
  | [d1, d2, d3] => { results := [.lit (.bool true)], args := [d1, d2, d3] }
  | _ => none }
def twolistAllRow : OpenClaim := { program := "ytghkkhafnkkomaa", sum := "94e5c07ef50918ec4d3406a72efbf454211eb658a4f6f861721947c7b48e1333", func := "mothball/mothballlaw22.TwolistAll", spec := "twolistAll", unfollowed := true, recurses := true, apart := false }
def TwolistAllSaid : Prop := twolistAllRow.holds Try.pinned (OpenSpec.ofChange twolistAllSpec)

/-- ITS FALSE NEIGHBOUR: 'it returns false'. Refute it at one input. -/
def twolistAllWrong : ChangeSpec := { name := "twolistAll", fn := fun _ => fun
  | [d1, d2, d3] => { results := [.lit (.bool false)], args := [d1, d2, d3] }
  | _ => none }
def TwolistAllWrongFalsely : Prop := twolistAllRow.holds Try.pinned (OpenSpec.ofChange twolistAllWrong)

/-- 'mothballlaw22.TwolistTurns': WHATEVER THE INPUT: true; the input reads as it did. -/
def twolistTurnsSpec : ChangeSpec := { name := "twolistTurns", fn := fun _ => fun
  | [d1, d2] => { results := [.lit (.bool true)], args := [d1, d2] }
  | _ => none }
def twolistTurnsRow : OpenClaim := { program := "ytghkkhafnkkomaa", sum := "94e5c07ef50918ec4d3406a72efbf454211eb658a4f6f861721947c7b48e1333", func := "mothball/mothballlaw22.TwolistTurns", spec := "twolistTurns", unfollowed := true, recurses := true, apart := false }
def TwolistTurnsSaid : Prop := twolistTurnsRow.holds Try.pinned (OpenSpec.ofChange twolistTurnsSpec)

/-- ITS FALSE NEIGHBOUR: 'it returns false'. Refute it at one input. -/
def twolistTurnsWrong : ChangeSpec := { name := "twolistTurns", fn := fun _ => fun
  | [d1, d2] => { results := [.lit (.bool false)], args := [d1, d2] }
  | _ => none }
def TwolistTurnsWrongFalsely : Prop := twolistTurnsRow.holds Try.pinned (OpenSpec.ofChange twolistTurnsWrong)

/-- 'mothballlaw04.PackFields': WHATEVER THE INPUT: true; the input reads as it did. -/
def packFieldsSpec : ChangeSpec := { name := "packFields", fn := fun _ => fun
  | [d] => { results := [.lit (.bool true)], args := [d] }
  | _ => none }
def packFieldsRow : OpenClaim := { program := "ytghkkhafnkkomaa", sum := "94e5c07ef50918ec4d3406a72efbf454211eb658a4f6f861721947c7b48e1333", func := "mothball/mothballlaw04.PackFields", spec := "packFields", unfollowed := true, recurses := true, apart := false }
def PackFieldsSaid : Prop := packFieldsRow.holds Try.pinned (OpenSpec.ofChange packFieldsSpec)

/-- ITS FALSE NEIGHBOUR: 'it returns false'. Refute it at one input. -/
def packFieldsWrong : ChangeSpec := { name := "packFields", fn := fun _ => fun
  | [d] => { results := [.lit (.bool false)], args := [d] }
  | _ => none }
def PackFieldsWrongFalsely : Prop := packFieldsRow.holds Try.pinned (OpenSpec.ofChange packFieldsWrong)

/-- 'mothballlaw04.PackReads': WHATEVER THE INPUT: true; the input reads as it did. -/
def packReadsSpec : ChangeSpec := { name := "packReads", fn := fun _ => fun
  | [d1, d2] => { results := [.lit (.bool true)], args := [d1, d2] }
  | _ => none }
def packReadsRow : OpenClaim := { program := "ytghkkhafnkkomaa", sum := "94e5c07ef50918ec4d3406a72efbf454211eb658a4f6f861721947c7b48e1333", func := "mothball/mothballlaw04.PackReads", spec := "packReads", unfollowed := true, recurses := true, apart := false }
def PackReadsSaid : Prop := packReadsRow.holds Try.pinned (OpenSpec.ofChange packReadsSpec)

/-- ITS FALSE NEIGHBOUR: 'it returns false'. Refute it at one input. -/
def packReadsWrong : ChangeSpec := { name := "packReads", fn := fun _ => fun
  | [d1, d2] => { results := [.lit (.bool false)], args := [d1, d2] }
  | _ => none }
def PackReadsWrongFalsely : Prop := packReadsRow.holds Try.pinned (OpenSpec.ofChange packReadsWrong)

/-- 'mothballlaw04.PackFails': WHATEVER THE INPUT: true; the input reads as it did. -/
def packFailsSpec : ChangeSpec := { name := "packFails", fn := fun _ => fun
  | [d] => { results := [.lit (.bool true)], args := [d] }
  | _ => none }
def packFailsRow : OpenClaim := { program := "ytghkkhafnkkomaa", sum := "94e5c07ef50918ec4d3406a72efbf454211eb658a4f6f861721947c7b48e1333", func := "mothball/mothballlaw04.PackFails", spec := "packFails", unfollowed := true, recurses := true, apart := false }
def PackFailsSaid : Prop := packFailsRow.holds Try.pinned (OpenSpec.ofChange packFailsSpec)

/-- ITS FALSE NEIGHBOUR: 'it returns false'. Refute it at one input. -/
def packFailsWrong : ChangeSpec := { name := "packFails", fn := fun _ => fun
  | [d] => { results := [.lit (.bool false)], args := [d] }
  | _ => none }
def PackFailsWrongFalsely : Prop := packFailsRow.holds Try.pinned (OpenSpec.ofChange packFailsWrong)

/-- 'mothballlaw03.DiskKeeps': WHATEVER THE INPUT: true; the input reads as it did. -/
def diskKeepsSpec : ChangeSpec := { name := "diskKeeps", fn := fun _ => fun
  | [d1, d2] => { results := [.lit (.bool true)], args := [d1, d2] }
  | _ => none }
def diskKeepsRow : OpenClaim := { program := "ytghkkhafnkkomaa", sum := "94e5c07ef50918ec4d3406a72efbf454211eb658a4f6f861721947c7b48e1333", func := "mothball/mothballlaw03.DiskKeeps", spec := "diskKeeps", unfollowed := true, recurses := true, apart := false }
def DiskKeepsSaid : Prop := diskKeepsRow.holds Try.pinned (OpenSpec.ofChange diskKeepsSpec)

/-- ITS FALSE NEIGHBOUR: 'it returns false'. Refute it at one input. -/
def diskKeepsWrong : ChangeSpec := { name := "diskKeeps", fn := fun _ => fun
  | [d1, d2] => { results := [.lit (.bool false)], args := [d1, d2] }
  | _ => none }
def DiskKeepsWrongFalsely : Prop := diskKeepsRow.holds Try.pinned (OpenSpec.ofChange diskKeepsWrong)

/-- 'mothballlaw03.DiskOff': WHATEVER THE INPUT: true; the input reads as it did. -/
def diskOffSpec : ChangeSpec := { name := "diskOff", fn := fun _ => fun
  | [d1, d2] => { results := [.lit (.bool true)], args := [d1, d2] }
  | _ => none }
def diskOffRow : OpenClaim := { program := "ytghkkhafnkkomaa", sum := "94e5c07ef50918ec4d3406a72efbf454211eb658a4f6f861721947c7b48e1333", func := "mothball/mothballlaw03.DiskOff", spec := "diskOff", unfollowed := true, recurses := true, apart := false }
def DiskOffSaid : Prop := diskOffRow.holds Try.pinned (OpenSpec.ofChange diskOffSpec)

/-- ITS FALSE NEIGHBOUR: 'it returns false'. Refute it at one input. -/
def diskOffWrong : ChangeSpec := { name := "diskOff", fn := fun _ => fun
  | [d1, d2] => { results := [.lit (.bool false)], args := [d1, d2] }
  | _ => none }
def DiskOffWrongFalsely : Prop := diskOffRow.holds Try.pinned (OpenSpec.ofChange diskOffWrong)

/-- 'mothballlaw03.DiskTorn': WHATEVER THE INPUT: true; the input reads as it did. -/
def diskTornSpec : ChangeSpec := { name := "diskTorn", fn := fun _ => fun
  | [d1, d2, d3] => { results := [.lit (.bool true)], args := [d1, d2, d3] }
  | _ => none }
def diskTornRow : OpenClaim := { program := "ytghkkhafnkkomaa", sum := "94e5c07ef50918ec4d3406a72efbf454211eb658a4f6f861721947c7b48e1333", func := "mothball/mothballlaw03.DiskTorn", spec := "diskTorn", unfollowed := true, recurses := true, apart := false }
def DiskTornSaid : Prop := diskTornRow.holds Try.pinned (OpenSpec.ofChange diskTornSpec)

/-- ITS FALSE NEIGHBOUR: 'it returns false'. Refute it at one input. -/
def diskTornWrong : ChangeSpec := { name := "diskTorn", fn := fun _ => fun
  | [d1, d2, d3] => { results := [.lit (.bool false)], args := [d1, d2, d3] }
  | _ => none }
def DiskTornWrongFalsely : Prop := diskTornRow.holds Try.pinned (OpenSpec.ofChange diskTornWrong)

/-- 'mothballlaw03.DiskLoads': WHATEVER THE INPUT: true; the input reads as it did. -/
def diskLoadsSpec : ChangeSpec := { name := "diskLoads", fn := fun _ => fun
  | [d] => { results := [.lit (.bool true)], args := [d] }
  | _ => none }
def diskLoadsRow : OpenClaim := { program := "ytghkkhafnkkomaa", sum := "94e5c07ef50918ec4d3406a72efbf454211eb658a4f6f861721947c7b48e1333", func := "mothball/mothballlaw03.DiskLoads", spec := "diskLoads", unfollowed := true, recurses := true, apart := false }
def DiskLoadsSaid : Prop := diskLoadsRow.holds Try.pinned (OpenSpec.ofChange diskLoadsSpec)

/-- ITS FALSE NEIGHBOUR: 'it returns false'. Refute it at one input. -/
def diskLoadsWrong : ChangeSpec := { name := "diskLoads", fn := fun _ => fun
  | [d] => { results := [.lit (.bool false)], args := [d] }
  | _ => none }
def DiskLoadsWrongFalsely : Prop := diskLoadsRow.holds Try.pinned (OpenSpec.ofChange diskLoadsWrong)

/- THE SECOND FORM. 'bulk': how many values and letters a reading holds, each counted each time it is reached (what is shared counts as often as it is met; a slice's spare places count too). A statement '..UptoSaid' is the law's where the arguments, and the package variables that the reading takes, are together of bulk at most 1048576: NARROWER than '..Said'. Prove '..Said' where nothing that the law and all that it calls make is longer than what came in: it says more and counts as full. Else prove '..UptoSaid'. A law counts once. -/
mutual
def uptoBulk {H : Type} : DataW H → Nat
  | .lit (.string bytes) => bytes.length + 1
  | .lit _ => 1
  | .nil => 1
  | .ptr d => uptoBulk d + 1
  | .slice elems spare => uptoBulkAll elems + uptoBulkAll spare + 1
  | .agg parts => uptoBulkAll parts + 1
  | .iface _ d => uptoBulk d + 1
  | .map entries => uptoBulkEntries entries + 1
  | .held _ => 1
def uptoBulkAll {H : Type} : List (DataW H) → Nat
  | [] => 0
  | d :: r => uptoBulk d + uptoBulkAll r
def uptoBulkEntries {H : Type} : List (Lit × DataW H) → Nat
  | [] => 0
  | x :: r => uptoBulkEntry x + uptoBulkEntries r
def uptoBulkEntry {H : Type} : Lit × DataW H → Nat
  | (.string bytes, d) => bytes.length + uptoBulk d + 1
  | (_, d) => uptoBulk d + 1
 end
def uptoSmall : (H : Type) → List (DataW H) → Bool := fun _ ds => decide (uptoBulkAll ds ≤ 1048576)
def OpenSpec.upto (s : _root_.Go.ChangeSpec) : _root_.Go.OpenSpec := { _root_.Go.OpenSpec.ofChange s with cond := some uptoSmall }

/-- 'mothballlaw22.TwolistSpares', WHERE WHAT IT READS IS OF BULK AT MOST 1048576: true; the input reads as it did. -/
def twolistSparesUptoRow : OpenClaim := { program := "ytghkkhafnkkomaa", sum := "94e5c07ef50918ec4d3406a72efbf454211eb658a4f6f861721947c7b48e1333", func := "mothball/mothballlaw22.TwolistSpares", spec := "twolistSpares", unfollowed := true, recurses := true, apart := false, narrowed := true }
def TwolistSparesUptoSaid : Prop := twolistSparesUptoRow.holds Try.pinned (OpenSpec.upto twolistSparesSpec)

/-- 'mothballlaw04.PackZigs', WHERE WHAT IT READS IS OF BULK AT MOST 1048576: true; the input reads as it did. -/
def packZigsUptoRow : OpenClaim := { program := "ytghkkhafnkkomaa", sum := "94e5c07ef50918ec4d3406a72efbf454211eb658a4f6f861721947c7b48e1333", func := "mothball/mothballlaw04.PackZigs", spec := "packZigs", unfollowed := true, recurses := true, apart := false, narrowed := true }
def PackZigsUptoSaid : Prop := packZigsUptoRow.holds Try.pinned (OpenSpec.upto packZigsSpec)

/-- 'mothballlaw22.TwolistActs', WHERE WHAT IT READS IS OF BULK AT MOST 1048576: true; the input reads as it did. -/
def twolistActsUptoRow : OpenClaim := { program := "ytghkkhafnkkomaa", sum := "94e5c07ef50918ec4d3406a72efbf454211eb658a4f6f861721947c7b48e1333", func := "mothball/mothballlaw22.TwolistActs", spec := "twolistActs", unfollowed := true, recurses := true, apart := false, narrowed := true }
def TwolistActsUptoSaid : Prop := twolistActsUptoRow.holds Try.pinned (OpenSpec.upto twolistActsSpec)

/-- 'mothballlaw22.TwolistAll', WHERE WHAT IT READS IS OF BULK AT MOST 1048576: true; the input reads as it did. -/
def twolistAllUptoRow : OpenClaim := { program := "ytghkkhafnkkomaa", sum := "94e5c07ef50918ec4d3406a72efbf454211eb658a4f6f861721947c7b48e1333", func := "mothball/mothballlaw22.TwolistAll", spec := "twolistAll", unfollowed := true, recurses := true, apart := false, narrowed := true }
def TwolistAllUptoSaid : Prop := twolistAllUptoRow.holds Try.pinned (OpenSpec.upto twolistAllSpec)

/-- 'mothballlaw22.TwolistTurns', WHERE WHAT IT READS IS OF BULK AT MOST 1048576: true; the input reads as it did. -/
def twolistTurnsUptoRow : OpenClaim := { program := "ytghkkhafnkkomaa", sum := "94e5c07ef50918ec4d3406a72efbf454211eb658a4f6f861721947c7b48e1333", func := "mothball/mothballlaw22.TwolistTurns", spec := "twolistTurns", unfollowed := true, recurses := true, apart := false, narrowed := true }
def TwolistTurnsUptoSaid : Prop := twolistTurnsUptoRow.holds Try.pinned (OpenSpec.upto twolistTurnsSpec)

/-- 'mothballlaw04.PackFields', WHERE WHAT IT READS IS OF BULK AT MOST 1048576: true; the input reads as it did. -/
def packFieldsUptoRow : OpenClaim := { program := "ytghkkhafnkkomaa", sum := "94e5c07ef50918ec4d3406a72efbf454211eb658a4f6f861721947c7b48e1333", func := "mothball/mothballlaw04.PackFields", spec := "packFields", unfollowed := true, recurses := true, apart := false, narrowed := true }
def PackFieldsUptoSaid : Prop := packFieldsUptoRow.holds Try.pinned (OpenSpec.upto packFieldsSpec)

/-- 'mothballlaw04.PackReads', WHERE WHAT IT READS IS OF BULK AT MOST 1048576: true; the input reads as it did. -/
def packReadsUptoRow : OpenClaim := { program := "ytghkkhafnkkomaa", sum := "94e5c07ef50918ec4d3406a72efbf454211eb658a4f6f861721947c7b48e1333", func := "mothball/mothballlaw04.PackReads", spec := "packReads", unfollowed := true, recurses := true, apart := false, narrowed := true }
def PackReadsUptoSaid : Prop := packReadsUptoRow.holds Try.pinned (OpenSpec.upto packReadsSpec)

/-- 'mothballlaw04.PackFails', WHERE WHAT IT READS IS OF BULK AT MOST 1048576: true; the input reads as it did. -/
def packFailsUptoRow : OpenClaim := { program := "ytghkkhafnkkomaa", sum := "94e5c07ef50918ec4d3406a72efbf454211eb658a4f6f861721947c7b48e1333", func := "mothball/mothballlaw04.PackFails", spec := "packFails", unfollowed := true, recurses := true, apart := false, narrowed := true }
def PackFailsUptoSaid : Prop := packFailsUptoRow.holds Try.pinned (OpenSpec.upto packFailsSpec)

/-- 'mothballlaw03.DiskKeeps', WHERE WHAT IT READS IS OF BULK AT MOST 1048576: true; the input reads as it did. -/
def diskKeepsUptoRow : OpenClaim := { program := "ytghkkhafnkkomaa", sum := "94e5c07ef50918ec4d3406a72efbf454211eb658a4f6f861721947c7b48e1333", func := "mothball/mothballlaw03.DiskKeeps", spec := "diskKeeps", unfollowed := true, recurses := true, apart := false, narrowed := true }
def DiskKeepsUptoSaid : Prop := diskKeepsUptoRow.holds Try.pinned (OpenSpec.upto diskKeepsSpec)

/-- 'mothballlaw03.DiskOff', WHERE WHAT IT READS IS OF BULK AT MOST 1048576: true; the input reads as it did. -/
def diskOffUptoRow : OpenClaim := { program := "ytghkkhafnkkomaa", sum := "94e5c07ef50918ec4d3406a72efbf454211eb658a4f6f861721947c7b48e1333", func := "mothball/mothballlaw03.DiskOff", spec := "diskOff", unfollowed := true, recurses := true, apart := false, narrowed := true }
def DiskOffUptoSaid : Prop := diskOffUptoRow.holds Try.pinned (OpenSpec.upto diskOffSpec)

/-- 'mothballlaw03.DiskTorn', WHERE WHAT IT READS IS OF BULK AT MOST 1048576: true; the input reads as it did. -/
def diskTornUptoRow : OpenClaim := { program := "ytghkkhafnkkomaa", sum := "94e5c07ef50918ec4d3406a72efbf454211eb658a4f6f861721947c7b48e1333", func := "mothball/mothballlaw03.DiskTorn", spec := "diskTorn", unfollowed := true, recurses := true, apart := false, narrowed := true }
def DiskTornUptoSaid : Prop := diskTornUptoRow.holds Try.pinned (OpenSpec.upto diskTornSpec)

/-- 'mothballlaw03.DiskLoads', WHERE WHAT IT READS IS OF BULK AT MOST 1048576: true; the input reads as it did. -/
def diskLoadsUptoRow : OpenClaim := { program := "ytghkkhafnkkomaa", sum := "94e5c07ef50918ec4d3406a72efbf454211eb658a4f6f861721947c7b48e1333", func := "mothball/mothballlaw03.DiskLoads", spec := "diskLoads", unfollowed := true, recurses := true, apart := false, narrowed := true }
def DiskLoadsUptoSaid : Prop := diskLoadsUptoRow.holds Try.pinned (OpenSpec.upto diskLoadsSpec)

end Rows
end Go.Proofs.Ytghkkhafnkkomaa
