/-
  A unit that came in, opened; what the statements' rows share. The condition: its texts and lists are within the reach.
-/
import Derived.Test.YtiecbgclkdlpkaaRead
import Derived.ProofKit
import Derived.OpenShut
import Derived.SizedLaws
namespace Go.Proofs.Ytiecbgclkdlpkaa
open Go.RowKit Go.ChangeShapes Go.WideShapes Go.ChangeAt

theorem own : ownKnob Try.prog.godebug = none := by kernel_rfl
theorem laidOut : laidOutB Try.prog = true := by kernel_rfl

theorem sized_at {H : Type} {ts : List TypeId} {ds : List (DataW H)} (h : (DataW.weightsEach Try.prog ts ds).all (· ≤ reachBytes) = true) (j : Nat) {t : TypeId} {d : DataW H} (ht : ts[j]? = some t) (hd : ds[j]? = some d) : Sized t d := fun n hn => by
  have := List.all_eq_true.1 h n (DataW.weights_mem_each ht hd n hn)
  simpa using this

set_option maxRecDepth 100000 in
theorem open_un {H : Type} {enc : TypeId × Value → H} {W : World} {base : Nat} {v : Value} {d : DataW H} {p : List MemPlace} (hv : Value.okWide Try.prog W .any base 63 v)
    (h0 : DataW.Trod enc Try.prog W 0 (fun _ => true) true 63 v d p) (hz : Sized 63 d) : ∃ (u : Un) (vs : List Value), v = .agg vs.toArray ∧ Vals W u.d vs := by
  obtain ⟨cs, rfl, _⟩ := okWide_struct Try.underlying63 hv
  obtain ⟨fuel, hf⟩ := h0
  rw [show (Value.agg cs).cells = cs from rfl] at hf
  obtain ⟨u, hu⟩ := readUn fuel _ _ hf hz
  exact ⟨u, cs.toList, by rw [Array.toArray_toList], hu⟩
end Go.Proofs.Ytiecbgclkdlpkaa
