/-
  NARROWER THAN 'FOR EVERY INPUT', by the rows' own cells (each row's printed sentence says how): KindsThrough: loops · KindsFits: loops · KindsInfers: loops · KindsPuts: loops · KindsSame: loops · KindsFinds: loops · KindsBack: loops · KindsMethods: loops · KindsTwins: loops.
  DERIVED. THE GIVEN ROWS OF THIS SEAT. 9 by the template 'for every input the law returns true; each argument reads behind the call as it read before'; 0 by the template 'total and deterministic' (their statements: YtiecbgclkdlpkaaTotals.lean).
  GIVEN WITH THE SEED: the statements are not yours to turn. If you find one false, say at which input.
  Laid BY PROGRAM, IN A SANDBOX (cutbox-rows.mjs): the forced cells as the released guide's own fill.sh prints them over the translation 6ea67a5cfbdfd7d5… (all of the seat's roots in one cut). By AI agents, Wed Nov 11 2026. No macro, syntax, notation, axiom, sorry.
-/
import Derived.Test.YtiecbgclkdlpkaaChecked
import GoSem.Claim
import GoSem.ClaimJoined
import GoSem.ClaimMapViews
import Derived.JoinedTies
import Derived.KernelRfl
namespace Go.Proofs.Ytiecbgclkdlpkaa
/- THE CELL 'sum', in the pinned program and in every row, IS THE sha256 OF THE DUMP (.gsa) THAT YtiecbgclkdlpkaaProg.lean LOADS. Nothing in Lean hashes anything: it is a label: what it is worth is what the hold of that sum in a sandbox is worth. -/
noncomputable def Try.pinned : Pinned := { name := "ytiecbgclkdlpkaa", sum := "6ea67a5cfbdfd7d52abe8cf1deb6bde1d035e822697cc2f1d62a142d98463e99", checked := Try.checked }
namespace Rows
def none {H : Type} : Left H := { results := [], args := [] }

/-- 'mortiselaw7.KindsThrough': WHATEVER THE INPUT: true; the input reads as it did. -/
def kindsThroughSpec : ChangeSpec := { name := "kindsThrough", fn := fun _ => fun
  | [d1, d2, d3, d4, d5] => { results := [.lit (.bool true)], args := [d1, d2, d3, d4, d5] }
  | _ => none }
def kindsThroughRow : OpenClaim := { program := "ytiecbgclkdlpkaa", sum := "6ea67a5cfbdfd7d52abe8cf1deb6bde1d035e822697cc2f1d62a142d98463e99", func := "mortise/mortiselaw7.KindsThrough", spec := "kindsThrough", inPlace := ["internal/abi.NoEscape", "internal/bytealg.MakeNoZero"], unfollowed := true, recurses := true, loops := true, apart := false }
def KindsThroughSaid : Prop := kindsThroughRow.holds Try.pinned (OpenSpec.ofChange kindsThroughSpec)

/-- ITS FALSE NEIGHBOUR: 'it returns false'. Refute it at one input. -/
def kindsThroughWrong : ChangeSpec := { name := "kindsThrough", fn := fun _ => fun
  | [d1, d2, d3, d4, d5] => { results := [.lit (.bool false)], args := [d1, d2, d3, d4, d5] }
  | _ => none }
def KindsThroughWrongFalsely : Prop := kindsThroughRow.holds Try.pinned (OpenSpec.ofChange kindsThroughWrong)

/-- 'mortiselaw7.KindsFits': WHATEVER THE INPUT: true; the input reads as it did. -/
def kindsFitsSpec : ChangeSpec := { name := "kindsFits", fn := fun _ => fun
  | [d1, d2, d3, d4] => { results := [.lit (.bool true)], args := [d1, d2, d3, d4] }
  | _ => none }
def kindsFitsRow : OpenClaim := { program := "ytiecbgclkdlpkaa", sum := "6ea67a5cfbdfd7d52abe8cf1deb6bde1d035e822697cc2f1d62a142d98463e99", func := "mortise/mortiselaw7.KindsFits", spec := "kindsFits", inPlace := ["internal/abi.NoEscape", "internal/bytealg.MakeNoZero"], unfollowed := true, recurses := true, loops := true, apart := false }
def KindsFitsSaid : Prop := kindsFitsRow.holds Try.pinned (OpenSpec.ofChange kindsFitsSpec)

/-- ITS FALSE NEIGHBOUR: 'it returns false'. Refute it at one input. -/
def kindsFitsWrong : ChangeSpec := { name := "kindsFits", fn := fun _ => fun
  | [d1, d2, d3, d4] => { results := [.lit (.bool false)], args := [d1, d2, d3, d4] }
  | _ => none }
def KindsFitsWrongFalsely : Prop := kindsFitsRow.holds Try.pinned (OpenSpec.ofChange kindsFitsWrong)

/-- 'mortiselaw7.KindsInfers': WHATEVER THE INPUT: true; the input reads as it did. -/
def kindsInfersSpec : ChangeSpec := { name := "kindsInfers", fn := fun _ => fun
  | [d1, d2, d3] => { results := [.lit (.bool true)], args := [d1, d2, d3] }
  | _ => none }
def kindsInfersRow : OpenClaim := { program := "ytiecbgclkdlpkaa", sum := "6ea67a5cfbdfd7d52abe8cf1deb6bde1d035e822697cc2f1d62a142d98463e99", func := "mortise/mortiselaw7.KindsInfers", spec := "kindsInfers", inPlace := ["internal/abi.NoEscape", "internal/bytealg.MakeNoZero"], unfollowed := true, recurses := true, loops := true, apart := false }
def KindsInfersSaid : Prop := kindsInfersRow.holds Try.pinned (OpenSpec.ofChange kindsInfersSpec)

/-- ITS FALSE NEIGHBOUR: 'it returns false'. Refute it at one input. -/
def kindsInfersWrong : ChangeSpec := { name := "kindsInfers", fn := fun _ => fun
  | [d1, d2, d3] => { results := [.lit (.bool false)], args := [d1, d2, d3] }
  | _ => none }
def KindsInfersWrongFalsely : Prop := kindsInfersRow.holds Try.pinned (OpenSpec.ofChange kindsInfersWrong)

/-- 'mortiselaw7.KindsPuts': WHATEVER THE INPUT: true; the input reads as it did. -/
def kindsPutsSpec : ChangeSpec := { name := "kindsPuts", fn := fun _ => fun
  | [d1, d2, d3] => { results := [.lit (.bool true)], args := [d1, d2, d3] }
  | _ => none }
def kindsPutsRow : OpenClaim := { program := "ytiecbgclkdlpkaa", sum := "6ea67a5cfbdfd7d52abe8cf1deb6bde1d035e822697cc2f1d62a142d98463e99", func := "mortise/mortiselaw7.KindsPuts", spec := "kindsPuts", inPlace := ["internal/abi.NoEscape", "internal/bytealg.MakeNoZero"], unfollowed := true, recurses := true, loops := true, apart := false }
def KindsPutsSaid : Prop := kindsPutsRow.holds Try.pinned (OpenSpec.ofChange kindsPutsSpec)

/-- ITS FALSE NEIGHBOUR: 'it returns false'. Refute it at one input. -/
def kindsPutsWrong : ChangeSpec := { name := "kindsPuts", fn := fun _ => fun
  | [d1, d2, d3] => { results := [.lit (.bool false)], args := [d1, d2, d3] }
  | _ => none }
def KindsPutsWrongFalsely : Prop := kindsPutsRow.holds Try.pinned (OpenSpec.ofChange kindsPutsWrong)

/-- 'mortiselaw7.KindsSame': WHATEVER THE INPUT: true; the input reads as it did. -/
def kindsSameSpec : ChangeSpec := { name := "kindsSame", fn := fun _ => fun
  | [d1, d2] => { results := [.lit (.bool true)], args := [d1, d2] }
  | _ => none }
def kindsSameRow : OpenClaim := { program := "ytiecbgclkdlpkaa", sum := "6ea67a5cfbdfd7d52abe8cf1deb6bde1d035e822697cc2f1d62a142d98463e99", func := "mortise/mortiselaw7.KindsSame", spec := "kindsSame", inPlace := ["internal/abi.NoEscape", "internal/bytealg.MakeNoZero"], unfollowed := true, recurses := true, loops := true, apart := false }
def KindsSameSaid : Prop := kindsSameRow.holds Try.pinned (OpenSpec.ofChange kindsSameSpec)

/-- ITS FALSE NEIGHBOUR: 'it returns false'. Refute it at one input. -/
def kindsSameWrong : ChangeSpec := { name := "kindsSame", fn := fun _ => fun
  | [d1, d2] => { results := [.lit (.bool false)], args := [d1, d2] }
  | _ => none }
def KindsSameWrongFalsely : Prop := kindsSameRow.holds Try.pinned (OpenSpec.ofChange kindsSameWrong)

/-- 'mortiselaw7.KindsFinds': WHATEVER THE INPUT: true; the input reads as it did. -/
def kindsFindsSpec : ChangeSpec := { name := "kindsFinds", fn := fun _ => fun
  | [d1, d2, d3] => { results := [.lit (.bool true)], args := [d1, d2, d3] }
  | _ => none }
def kindsFindsRow : OpenClaim := { program := "ytiecbgclkdlpkaa", sum := "6ea67a5cfbdfd7d52abe8cf1deb6bde1d035e822697cc2f1d62a142d98463e99", func := "mortise/mortiselaw7.KindsFinds", spec := "kindsFinds", inPlace := ["internal/abi.NoEscape", "internal/bytealg.MakeNoZero"], unfollowed := true, recurses := true, loops := true, apart := false }
def KindsFindsSaid : Prop := kindsFindsRow.holds Try.pinned (OpenSpec.ofChange kindsFindsSpec)

/-- ITS FALSE NEIGHBOUR: 'it returns false'. Refute it at one input. -/
def kindsFindsWrong : ChangeSpec := { name := "kindsFinds", fn := fun _ => fun
  | [d1, d2, d3] => { results := [.lit (.bool false)], args := [d1, d2, d3] }
  | _ => none }
def KindsFindsWrongFalsely : Prop := kindsFindsRow.holds Try.pinned (OpenSpec.ofChange kindsFindsWrong)

/-- 'mortiselaw7.KindsBack': WHATEVER THE INPUT: true; the input reads as it did. -/
def kindsBackSpec : ChangeSpec := { name := "kindsBack", fn := fun _ => fun
  | [d1, d2, d3] => { results := [.lit (.bool true)], args := [d1, d2, d3] }
  | _ => none }
def kindsBackRow : OpenClaim := { program := "ytiecbgclkdlpkaa", sum := "6ea67a5cfbdfd7d52abe8cf1deb6bde1d035e822697cc2f1d62a142d98463e99", func := "mortise/mortiselaw7.KindsBack", spec := "kindsBack", inPlace := ["internal/abi.NoEscape", "internal/bytealg.MakeNoZero"], unfollowed := true, recurses := true, loops := true, apart := false }
def KindsBackSaid : Prop := kindsBackRow.holds Try.pinned (OpenSpec.ofChange kindsBackSpec)

/-- ITS FALSE NEIGHBOUR: 'it returns false'. Refute it at one input. -/
def kindsBackWrong : ChangeSpec := { name := "kindsBack", fn := fun _ => fun
  | [d1, d2, d3] => { results := [.lit (.bool false)], args := [d1, d2, d3] }
  | _ => none }
def KindsBackWrongFalsely : Prop := kindsBackRow.holds Try.pinned (OpenSpec.ofChange kindsBackWrong)

/-- 'mortiselaw7.KindsMethods': WHATEVER THE INPUT: true; the input reads as it did. -/
def kindsMethodsSpec : ChangeSpec := { name := "kindsMethods", fn := fun _ => fun
  | [d1, d2, d3] => { results := [.lit (.bool true)], args := [d1, d2, d3] }
  | _ => none }
def kindsMethodsRow : OpenClaim := { program := "ytiecbgclkdlpkaa", sum := "6ea67a5cfbdfd7d52abe8cf1deb6bde1d035e822697cc2f1d62a142d98463e99", func := "mortise/mortiselaw7.KindsMethods", spec := "kindsMethods", inPlace := ["internal/abi.NoEscape", "internal/bytealg.MakeNoZero"], unfollowed := true, recurses := true, loops := true, apart := false }
def KindsMethodsSaid : Prop := kindsMethodsRow.holds Try.pinned (OpenSpec.ofChange kindsMethodsSpec)

/-- ITS FALSE NEIGHBOUR: 'it returns false'. Refute it at one input. -/
def kindsMethodsWrong : ChangeSpec := { name := "kindsMethods", fn := fun _ => fun
  | [d1, d2, d3] => { results := [.lit (.bool false)], args := [d1, d2, d3] }
  | _ => none }
def KindsMethodsWrongFalsely : Prop := kindsMethodsRow.holds Try.pinned (OpenSpec.ofChange kindsMethodsWrong)

/-- 'mortiselaw7.KindsTwins': WHATEVER THE INPUT: true; the input reads as it did. -/
def kindsTwinsSpec : ChangeSpec := { name := "kindsTwins", fn := fun _ => fun
  | [d1, d2] => { results := [.lit (.bool true)], args := [d1, d2] }
  | _ => none }
def kindsTwinsRow : OpenClaim := { program := "ytiecbgclkdlpkaa", sum := "6ea67a5cfbdfd7d52abe8cf1deb6bde1d035e822697cc2f1d62a142d98463e99", func := "mortise/mortiselaw7.KindsTwins", spec := "kindsTwins", inPlace := ["internal/abi.NoEscape", "internal/bytealg.MakeNoZero"], unfollowed := true, recurses := true, loops := true, apart := false }
def KindsTwinsSaid : Prop := kindsTwinsRow.holds Try.pinned (OpenSpec.ofChange kindsTwinsSpec)

/-- ITS FALSE NEIGHBOUR: 'it returns false'. Refute it at one input. -/
def kindsTwinsWrong : ChangeSpec := { name := "kindsTwins", fn := fun _ => fun
  | [d1, d2] => { results := [.lit (.bool false)], args := [d1, d2] }
  | _ => none }
def KindsTwinsWrongFalsely : Prop := kindsTwinsRow.holds Try.pinned (OpenSpec.ofChange kindsTwinsWrong)

/- THE SECOND FORM. 'bulk': how many values and letters a reading holds, each counted each time it is reached (what is shared counts as often as it is met; a slice's spare places count too). A statement '..UptoSaid' is the law's where the arguments, and the package variables that the reading takes, are together of bulk at most 1048576: NARROWER than '..Said'. Prove '..Said' where nothing that the law and all that it calls make is longer than what came in: it says more and counts as full. Else prove '..UptoSaid'. A law counts once. -/
mutual
def uptoBulk {H : Type} : DataW H → Nat
  | .lit (.string bytes) => bytes.length + 1
  | .lit _ => 1
  | .nil => 1
  | .ptr d => uptoBulk d + 1
  | .slice elems spare => uptoBulkAll elems + uptoBulkAll spare + 1
  | .agg parts => uptoBulkAll parts + 1
  | .iface _ d => uptoBulk d + 1
  | .map entries => uptoBulkEntries entries + 1
  | .held _ => 1
def uptoBulkAll {H : Type} : List (DataW H) → Nat
  | [] => 0
  | d :: r => uptoBulk d + uptoBulkAll r
def uptoBulkEntries {H : Type} : List (Lit × DataW H) → Nat
  | [] => 0
  | x :: r => uptoBulkEntry x + uptoBulkEntries r
def uptoBulkEntry {H : Type} : Lit × DataW H → Nat
  | (.string bytes, d) => bytes.length + uptoBulk d + 1
  | (_, d) => uptoBulk d + 1
 end
def uptoSmall : (H : Type) → List (DataW H) → Bool := fun _ ds => decide (uptoBulkAll ds ≤ 1048576)
def OpenSpec.upto (s : _root_.Go.ChangeSpec) : _root_.Go.OpenSpec := { _root_.Go.OpenSpec.ofChange s with cond := some uptoSmall }

/-- 'mortiselaw7.KindsThrough', WHERE WHAT IT READS IS OF BULK AT MOST 1048576: true; the input reads as it did. -/
def kindsThroughUptoRow : OpenClaim := { program := "ytiecbgclkdlpkaa", sum := "6ea67a5cfbdfd7d52abe8cf1deb6bde1d035e822697cc2f1d62a142d98463e99", func := "mortise/mortiselaw7.KindsThrough", spec := "kindsThrough", inPlace := ["internal/abi.NoEscape", "internal/bytealg.MakeNoZero"], unfollowed := true, recurses := true, loops := true, apart := false, narrowed := true }
def KindsThroughUptoSaid : Prop := kindsThroughUptoRow.holds Try.pinned (OpenSpec.upto kindsThroughSpec)

/-- 'mortiselaw7.KindsFits', WHERE WHAT IT READS IS OF BULK AT MOST 1048576: true; the input reads as it did. -/
def kindsFitsUptoRow : OpenClaim := { program := "ytiecbgclkdlpkaa", sum := "6ea67a5cfbdfd7d52abe8cf1deb6bde1d035e822697cc2f1d62a142d98463e99", func := "mortise/mortiselaw7.KindsFits", spec := "kindsFits", inPlace := ["internal/abi.NoEscape", "internal/bytealg.MakeNoZero"], unfollowed := true, recurses := true, loops := true, apart := false, narrowed := true }
def KindsFitsUptoSaid : Prop := kindsFitsUptoRow.holds Try.pinned (OpenSpec.upto kindsFitsSpec)

/-- 'mortiselaw7.KindsInfers', WHERE WHAT IT READS IS OF BULK AT MOST 1048576: true; the input reads as it did. -/
def kindsInfersUptoRow : OpenClaim := { program := "ytiecbgclkdlpkaa", sum := "6ea67a5cfbdfd7d52abe8cf1deb6bde1d035e822697cc2f1d62a142d98463e99", func := "mortise/mortiselaw7.KindsInfers", spec := "kindsInfers", inPlace := ["internal/abi.NoEscape", "internal/bytealg.MakeNoZero"], unfollowed := true, recurses := true, loops := true, apart := false, narrowed := true }
def KindsInfersUptoSaid : Prop := kindsInfersUptoRow.holds Try.pinned (OpenSpec.upto kindsInfersSpec)

/-- 'mortiselaw7.KindsPuts', WHERE WHAT IT READS IS OF BULK AT MOST 1048576: true; the input reads as it did. -/
def kindsPutsUptoRow : OpenClaim := { program := "ytiecbgclkdlpkaa", sum := "6ea67a5cfbdfd7d52abe8cf1deb6bde1d035e822697cc2f1d62a142d98463e99", func := "mortise/mortiselaw7.KindsPuts", spec := "kindsPuts", inPlace := ["internal/abi.NoEscape", "internal/bytealg.MakeNoZero"], unfollowed := true, recurses := true, loops := true, apart := false, narrowed := true }
def KindsPutsUptoSaid : Prop := kindsPutsUptoRow.holds Try.pinned (OpenSpec.upto kindsPutsSpec)

/-- 'mortiselaw7.KindsSame', WHERE WHAT IT READS IS OF BULK AT MOST 1048576: true; the input reads as it did. -/
def kindsSameUptoRow : OpenClaim := { program := "ytiecbgclkdlpkaa", sum := "6ea67a5cfbdfd7d52abe8cf1deb6bde1d035e822697cc2f1d62a142d98463e99", func := "mortise/mortiselaw7.KindsSame", spec := "kindsSame", inPlace := ["internal/abi.NoEscape", "internal/bytealg.MakeNoZero"], unfollowed := true, recurses := true, loops := true, apart := false, narrowed := true }
def KindsSameUptoSaid : Prop := kindsSameUptoRow.holds Try.pinned (OpenSpec.upto kindsSameSpec)

/-- 'mortiselaw7.KindsFinds', WHERE WHAT IT READS IS OF BULK AT MOST 1048576: true; the input reads as it did. -/
def kindsFindsUptoRow : OpenClaim := { program := "ytiecbgclkdlpkaa", sum := "6ea67a5cfbdfd7d52abe8cf1deb6bde1d035e822697cc2f1d62a142d98463e99", func := "mortise/mortiselaw7.KindsFinds", spec := "kindsFinds", inPlace := ["internal/abi.NoEscape", "internal/bytealg.MakeNoZero"], unfollowed := true, recurses := true, loops := true, apart := false, narrowed := true }
def KindsFindsUptoSaid : Prop := kindsFindsUptoRow.holds Try.pinned (OpenSpec.upto kindsFindsSpec)

/-- 'mortiselaw7.KindsBack', WHERE WHAT IT READS IS OF BULK AT MOST 1048576: true; the input reads as it did. -/
def kindsBackUptoRow : OpenClaim := { program := "ytiecbgclkdlpkaa", sum := "6ea67a5cfbdfd7d52abe8cf1deb6bde1d035e822697cc2f1d62a142d98463e99", func := "mortise/mortiselaw7.KindsBack", spec := "kindsBack", inPlace := ["internal/abi.NoEscape", "internal/bytealg.MakeNoZero"], unfollowed := true, recurses := true, loops := true, apart := false, narrowed := true }
def KindsBackUptoSaid : Prop := kindsBackUptoRow.holds Try.pinned (OpenSpec.upto kindsBackSpec)

/-- 'mortiselaw7.KindsMethods', WHERE WHAT IT READS IS OF BULK AT MOST 1048576: true; the input reads as it did. -/
def kindsMethodsUptoRow : OpenClaim := { program := "ytiecbgclkdlpkaa", sum := "6ea67a5cfbdfd7d52abe8cf1deb6bde1d035e822697cc2f1d62a142d98463e99", func := "mortise/mortiselaw7.KindsMethods", spec := "kindsMethods", inPlace := ["internal/abi.NoEscape", "internal/bytealg.MakeNoZero"], unfollowed := true, recurses := true, loops := true, apart := false, narrowed := true }
def KindsMethodsUptoSaid : Prop := kindsMethodsUptoRow.holds Try.pinned (OpenSpec.upto kindsMethodsSpec)

/-- 'mortiselaw7.KindsTwins', WHERE WHAT IT READS IS OF BULK AT MOST 1048576: true; the input reads as it did. -/
def kindsTwinsUptoRow : OpenClaim := { program := "ytiecbgclkdlpkaa", sum := "6ea67a5cfbdfd7d52abe8cf1deb6bde1d035e822697cc2f1d62a142d98463e99", func := "mortise/mortiselaw7.KindsTwins", spec := "kindsTwins", inPlace := ["internal/abi.NoEscape", "internal/bytealg.MakeNoZero"], unfollowed := true, recurses := true, loops := true, apart := false, narrowed := true }
def KindsTwinsUptoSaid : Prop := kindsTwinsUptoRow.holds Try.pinned (OpenSpec.upto kindsTwinsSpec)

end Rows
end Go.Proofs.Ytiecbgclkdlpkaa
