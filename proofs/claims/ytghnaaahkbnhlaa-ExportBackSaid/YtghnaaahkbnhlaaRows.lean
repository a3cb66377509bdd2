/-
  NARROWER THAN 'FOR EVERY INPUT', by the rows' own cells (each row's printed sentence says how): ExportUnlike: loops · ExportEncodes: loops · ExportBack: loops · ExportTurned: loops.
  DERIVED. THE GIVEN ROWS OF THIS SEAT. 6 by the template 'for every input the law returns true; each argument reads behind the call as it read before'; 0 by the template 'total and deterministic' (their statements: YtghnaaahkbnhlaaTotals.lean).
  GIVEN WITH THE SEED: the statements are not yours to turn. If you find one false, say at which input.
  Laid BY PROGRAM, IN A SANDBOX (cutbox-rows.mjs): the forced cells as the released guide's own fill.sh prints them over the translation 4c61cbf0a337e66a… (all of the seat's roots in one cut). By AI agents, Wed Nov 11 2026. No macro, syntax, notation, axiom, sorry.
-/
import Derived.Test.YtghnaaahkbnhlaaChecked
import GoSem.Claim
import GoSem.ClaimJoined
import GoSem.ClaimMapViews
import Derived.JoinedTies
import Derived.KernelRfl
namespace Go.Proofs.Ytghnaaahkbnhlaa
/- THE CELL 'sum', in the pinned program and in every row, IS THE sha256 OF THE DUMP (.gsa) THAT YtghnaaahkbnhlaaProg.lean LOADS. Nothing in Lean hashes anything: it is a label: what it is worth is what the hold of that sum in a sandbox is worth. -/
noncomputable def Try.pinned : Pinned := { name := "ytghnaaahkbnhlaa", sum := "4c61cbf0a337e66a847ec645439749b86c52559f4e853c9c302732ae4cdaeaf0", checked := Try.checked }
namespace Rows
def none {H : Type} : Left H := { results := [], args := [] }

/-- 'mortiselaw8.ExportSums': WHATEVER THE INPUT: true; the input reads as it did. -/
def exportSumsSpec : ChangeSpec := { name := "exportSums", fn := fun _ => fun
  | [d] => { results := [.lit (.bool true)], args := [d] }
  | _ => none }
def exportSumsRow : OpenClaim := { program := "ytghnaaahkbnhlaa", sum := "4c61cbf0a337e66a847ec645439749b86c52559f4e853c9c302732ae4cdaeaf0", func := "mortise/mortiselaw8.ExportSums", spec := "exportSums", unfollowed := true, recurses := true, apart := false }
def ExportSumsSaid : Prop := exportSumsRow.holds Try.pinned (OpenSpec.ofChange exportSumsSpec)

/-- ITS FALSE NEIGHBOUR: 'it returns false'. Refute it at one input. -/
def exportSumsWrong : ChangeSpec := { name := "exportSums", fn := fun _ => fun
  | [d] => { results := [.lit (.bool false)], args := [d] }
  | _ => none }
def ExportSumsWrongFalsely : Prop := exportSumsRow.holds Try.pinned (OpenSpec.ofChange exportSumsWrong)

/-- 'mortiselaw8.ExportUnlike': WHATEVER THE INPUT: true; the input reads as it did. -/
def exportUnlikeSpec : ChangeSpec := { name := "exportUnlike", fn := fun _ => fun
  | [d1, d2] => { results := [.lit (.bool true)], args := [d1, d2] }
  | _ => none }
def exportUnlikeRow : OpenClaim := { program := "ytghnaaahkbnhlaa", sum := "4c61cbf0a337e66a847ec645439749b86c52559f4e853c9c302732ae4cdaeaf0", func := "mortise/mortiselaw8.ExportUnlike", spec := "exportUnlike", unfollowed := true, recurses := true, loops := true, apart := false }
def ExportUnlikeSaid : Prop := exportUnlikeRow.holds Try.pinned (OpenSpec.ofChange exportUnlikeSpec)

/-- ITS FALSE NEIGHBOUR: 'it returns false'. Refute it at one input. -/
def exportUnlikeWrong : ChangeSpec := { name := "exportUnlike", fn := fun _ => fun
  | [d1, d2] => { results := [.lit (.bool false)], args := [d1, d2] }
  | _ => none }
def ExportUnlikeWrongFalsely : Prop := exportUnlikeRow.holds Try.pinned (OpenSpec.ofChange exportUnlikeWrong)

/-- 'mortiselaw8.ExportEncodes': WHATEVER THE INPUT: true; the input reads as it did. -/
def exportEncodesSpec : ChangeSpec := { name := "exportEncodes", fn := fun _ => fun
  | [d] => { results := [.lit (.bool true)], args := [d] }
  | _ => none }
def exportEncodesRow : OpenClaim := { program := "ytghnaaahkbnhlaa", sum := "4c61cbf0a337e66a847ec645439749b86c52559f4e853c9c302732ae4cdaeaf0", func := "mortise/mortiselaw8.ExportEncodes", spec := "exportEncodes", unfollowed := true, recurses := true, loops := true, apart := false }
def ExportEncodesSaid : Prop := exportEncodesRow.holds Try.pinned (OpenSpec.ofChange exportEncodesSpec)

/-- ITS FALSE NEIGHBOUR: 'it returns false'. Refute it at one input. -/
def exportEncodesWrong : ChangeSpec := { name := "exportEncodes", fn := fun _ => fun
  | [d] => { results := [.lit (.bool false)], args := [d] }
  | _ => none }
def ExportEncodesWrongFalsely : Prop := exportEncodesRow.holds Try.pinned (OpenSpec.ofChange exportEncodesWrong)

/-- 'mortiselaw8.ExportReads': WHATEVER THE INPUT: true; the input reads as it did. -/
def exportReadsSpec : ChangeSpec := { name := "exportReads", fn := fun _ => fun
  | [d] => { results := [.lit (.bool true)], args := [d] }
  | _ => none }
def exportReadsRow : OpenClaim := { program := "ytghnaaahkbnhlaa", sum := "4c61cbf0a337e66a847ec645439749b86c52559f4e853c9c302732ae4cdaeaf0", func := "mortise/mortiselaw8.ExportReads", spec := "exportReads", unfollowed := true, recurses := true, apart := false }
def ExportReadsSaid : Prop := exportReadsRow.holds Try.pinned (OpenSpec.ofChange exportReadsSpec)

/-- ITS FALSE NEIGHBOUR: 'it returns false'. Refute it at one input. -/
def exportReadsWrong : ChangeSpec := { name := "exportReads", fn := fun _ => fun
  | [d] => { results := [.lit (.bool false)], args := [d] }
  | _ => none }
def ExportReadsWrongFalsely : Prop := exportReadsRow.holds Try.pinned (OpenSpec.ofChange exportReadsWrong)

/-- 'mortiselaw8.ExportBack': WHATEVER THE INPUT: true; the input reads as it did. -/
def exportBackSpec : ChangeSpec := { name := "exportBack", fn := fun _ => fun
  | [d] => { results := [.lit (.bool true)], args := [d] }
  | _ => none }
def exportBackRow : OpenClaim := { program := "ytghnaaahkbnhlaa", sum := "4c61cbf0a337e66a847ec645439749b86c52559f4e853c9c302732ae4cdaeaf0", func := "mortise/mortiselaw8.ExportBack", spec := "exportBack", unfollowed := true, recurses := true, loops := true, apart := false }
def ExportBackSaid : Prop := exportBackRow.holds Try.pinned (OpenSpec.ofChange exportBackSpec)

/-- ITS FALSE NEIGHBOUR: 'it returns false'. Refute it at one input. -/
def exportBackWrong : ChangeSpec := { name := "exportBack", fn := fun _ => fun
  | [d] => { results := [.lit (.bool false)], args := [d] }
  | _ => none }
def ExportBackWrongFalsely : Prop := exportBackRow.holds Try.pinned (OpenSpec.ofChange exportBackWrong)

/-- 'mortiselaw8.ExportTurned': WHATEVER THE INPUT: true; the input reads as it did. -/
def exportTurnedSpec : ChangeSpec := { name := "exportTurned", fn := fun _ => fun
  | [d1, d2, d3, d4] => { results := [.lit (.bool true)], args := [d1, d2, d3, d4] }
  | _ => none }
def exportTurnedRow : OpenClaim := { program := "ytghnaaahkbnhlaa", sum := "4c61cbf0a337e66a847ec645439749b86c52559f4e853c9c302732ae4cdaeaf0", func := "mortise/mortiselaw8.ExportTurned", spec := "exportTurned", unfollowed := true, recurses := true, loops := true, apart := false }
def ExportTurnedSaid : Prop := exportTurnedRow.holds Try.pinned (OpenSpec.ofChange exportTurnedSpec)

/-- ITS FALSE NEIGHBOUR: 'it returns false'. Refute it at one input. -/
def exportTurnedWrong : ChangeSpec := { name := "exportTurned", fn := fun _ => fun
  | [d1, d2, d3, d4] => { results := [.lit (.bool false)], args := [d1, d2, d3, d4] }
  | _ => none }
def ExportTurnedWrongFalsely : Prop := exportTurnedRow.holds Try.pinned (OpenSpec.ofChange exportTurnedWrong)

/- THE SECOND FORM. 'bulk': how many values and letters a reading holds, each counted each time it is reached (what is shared counts as often as it is met; a slice's spare places count too). A statement '..UptoSaid' is the law's where the arguments, and the package variables that the reading takes, are together of bulk at most 1048576: NARROWER than '..Said'. Prove '..Said' where nothing that the law and all that it calls make is longer than what came in: it says more and counts as full. Else prove '..UptoSaid'. A law counts once. -/
mutual
def uptoBulk {H : Type} : DataW H → Nat
  | .lit (.string bytes) => bytes.length + 1
  | .lit _ => 1
  | .nil => 1
  | .ptr d => uptoBulk d + 1
  | .slice elems spare => uptoBulkAll elems + uptoBulkAll spare + 1
  | .agg parts => uptoBulkAll parts + 1
  | .iface _ d => uptoBulk d + 1
  | .map entries => uptoBulkEntries entries + 1
  | .held _ => 1
def uptoBulkAll {H : Type} : List (DataW H) → Nat
  | [] => 0
  | d :: r => uptoBulk d + uptoBulkAll r
def uptoBulkEntries {H : Type} : List (Lit × DataW H) → Nat
  | [] => 0
  | x :: r => uptoBulkEntry x + uptoBulkEntries r
def uptoBulkEntry {H : Type} : Lit × DataW H → Nat
  | (.string bytes, d) => bytes.length + uptoBulk d + 1
  | (_, d) => uptoBulk d + 1
 end
def uptoSmall : (H : Type) → List (DataW H) → Bool := fun _ ds => decide (uptoBulkAll ds ≤ 1048576)
def OpenSpec.upto (s : _root_.Go.ChangeSpec) : _root_.Go.OpenSpec := { _root_.Go.OpenSpec.ofChange s with cond := some uptoSmall }

/-- 'mortiselaw8.ExportSums', WHERE WHAT IT READS IS OF BULK AT MOST 1048576: true; the input reads as it did. -/
def exportSumsUptoRow : OpenClaim := { program := "ytghnaaahkbnhlaa", sum := "4c61cbf0a337e66a847ec645439749b86c52559f4e853c9c302732ae4cdaeaf0", func := "mortise/mortiselaw8.ExportSums", spec := "exportSums", unfollowed := true, recurses := true, apart := false, narrowed := true }
def ExportSumsUptoSaid : Prop := exportSumsUptoRow.holds Try.pinned (OpenSpec.upto exportSumsSpec)

/-- 'mortiselaw8.ExportUnlike', WHERE WHAT IT READS IS OF BULK AT MOST 1048576: true; the input reads as it did. -/
def exportUnlikeUptoRow : OpenClaim := { program := "ytghnaaahkbnhlaa", sum := "4c61cbf0a337e66a847ec645439749b86c52559f4e853c9c302732ae4cdaeaf0", func := "mortise/mortiselaw8.ExportUnlike", spec := "exportUnlike", unfollowed := true, recurses := true, loops := true, apart := false, narrowed := true }
def ExportUnlikeUptoSaid : Prop := exportUnlikeUptoRow.holds Try.pinned (OpenSpec.upto exportUnlikeSpec)

/-- 'mortiselaw8.ExportEncodes', WHERE WHAT IT READS IS OF BULK AT MOST 1048576: true; the input reads as it did. -/
def exportEncodesUptoRow : OpenClaim := { program := "ytghnaaahkbnhlaa", sum := "4c61cbf0a337e66a847ec645439749b86c52559f4e853c9c302732ae4cdaeaf0", func := "mortise/mortiselaw8.ExportEncodes", spec := "exportEncodes", unfollowed := true, recurses := true, loops := true, apart := false, narrowed := true }
def ExportEncodesUptoSaid : Prop := exportEncodesUptoRow.holds Try.pinned (OpenSpec.upto exportEncodesSpec)

/-- 'mortiselaw8.ExportReads', WHERE WHAT IT READS IS OF BULK AT MOST 1048576: true; the input reads as it did. -/
def exportReadsUptoRow : OpenClaim := { program := "ytghnaaahkbnhlaa", sum := "4c61cbf0a337e66a847ec645439749b86c52559f4e853c9c302732ae4cdaeaf0", func := "mortise/mortiselaw8.ExportReads", spec := "exportReads", unfollowed := true, recurses := true, apart := false, narrowed := true }
def ExportReadsUptoSaid : Prop := exportReadsUptoRow.holds Try.pinned (OpenSpec.upto exportReadsSpec)

/-- 'mortiselaw8.ExportBack', WHERE WHAT IT READS IS OF BULK AT MOST 1048576: true; the input reads as it did. -/
def exportBackUptoRow : OpenClaim := { program := "ytghnaaahkbnhlaa", sum := "4c61cbf0a337e66a847ec645439749b86c52559f4e853c9c302732ae4cdaeaf0", func := "mortise/mortiselaw8.ExportBack", spec := "exportBack", unfollowed := true, recurses := true, loops := true, apart := false, narrowed := true }
def ExportBackUptoSaid : Prop := exportBackUptoRow.holds Try.pinned (OpenSpec.upto exportBackSpec)

/-- 'mortiselaw8.ExportTurned', WHERE WHAT IT READS IS OF BULK AT MOST 1048576: true; the input reads as it did. -/
def exportTurnedUptoRow : OpenClaim := { program := "ytghnaaahkbnhlaa", sum := "4c61cbf0a337e66a847ec645439749b86c52559f4e853c9c302732ae4cdaeaf0", func := "mortise/mortiselaw8.ExportTurned", spec := "exportTurned", unfollowed := true, recurses := true, loops := true, apart := false, narrowed := true }
def ExportTurnedUptoSaid : Prop := exportTurnedUptoRow.holds Try.pinned (OpenSpec.upto exportTurnedSpec)

end Rows
end Go.Proofs.Ytghnaaahkbnhlaa
