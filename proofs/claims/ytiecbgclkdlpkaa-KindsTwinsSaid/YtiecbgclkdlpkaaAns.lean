/-
  What a call that only computes answers. No condition.
-/
import Derived.Test.YtiecbgclkdlpkaaData
import Derived.Test.YtiecbgclkdlpkaaProg
namespace Go.Proofs.Ytiecbgclkdlpkaa
open Go.RowKit

/-- The call answers v and leaves what there is. -/
def Ans (w : World) (v : Value) (e : Ending) (w' : World) : Prop := e = .returned v ∧ Below w.heap.size w w'
theorem Ans.bool {w : World} {a b : Bool} {e : Ending} {w' : World} (h : Ans w (.bool a) e w') (hab : a = b) : Ans w (.bool b) e w' := hab ▸ h
end Go.Proofs.Ytiecbgclkdlpkaa
