/-
  As XHeldT: an operation whose guard does not want it. No condition.
-/
import Derived.Test.YtiecbgclkdlpkaaHeldT
namespace Go.Proofs.Ytiecbgclkdlpkaa
section
variable {P : Program} {ops : Array Oper} {Q : Exit → Act → World → Prop} {S : World → Prop}
theorem wpT_skip {i : Nat} {t : OT} {a : Act} {w : World} {o : Oper} (hi : ops[i]? = some o) (hw : Region.wanted o (yielded ops a.tmps) = false)
    (h : ∀ K : Act → Prop, (∀ a, wpT P ops Q S t a w → K a) → K (a.put o.dst undef)) : wpT P ops Q S (.get i t) a w :=
  ⟨o, undef, hi, .inr ⟨hw, rfl⟩, h _ fun _ h => h⟩
end
end Go.Proofs.Ytiecbgclkdlpkaa
