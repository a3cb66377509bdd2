/-
  As XHeld, where two that change the world may come up side by side: the walk is a tree.
-/
import Derived.Test.YtiecbgclkdlpkaaHeld
namespace Go.Proofs.Ytiecbgclkdlpkaa

/-- An order with choices: what only reads; what is loud and alone; two that are loud. -/
inductive OT where
  | done
  | get (i : Nat) (t : OT)
  | one (i : Nat) (t : OT)
  | two (i : Nat) (t : OT) (j : Nat) (u : OT)

section
variable {P : Program} {ops : Array Oper} {md : Region.Mode} {Q : Exit → Act → World → Prop} {S : World → Prop}

def wpT (P : Program) (ops : Array Oper) (Q : Exit → Act → World → Prop) (S : World → Prop) : OT → Act → World → Prop
  | .done, a, w => Q .normal a w
  | .get i t, a, w => ∃ o v, ops[i]? = some o ∧ YieldsIf P ops S o v a ∧ wpT P ops Q S t (a.put o.dst v) w
  | .one i t, a, w => ∃ o, ops[i]? = some o ∧ wpList P ops (Exit.then (fun a' w' => S w' ∧ wpT P ops Q S t a' w') Q) [o] a w
  | .two i t j u, a, w => (∃ o, ops[i]? = some o ∧ wpList P ops (Exit.then (fun a' w' => S w' ∧ wpT P ops Q S t a' w') Q) [o] a w) ∧ (∃ o, ops[j]? = some o ∧ wpList P ops (Exit.then (fun a' w' => S w' ∧ wpT P ops Q S u a' w') Q) [o] a w)

def otB (md : Region.Mode) (ops : Array Oper) : OT → Array Bool → Bool
  | .done, listed => (Region.ready md ops listed).isEmpty
  | .get i t, listed => Region.free md ops listed i && (Region.ready md ops listed).contains i && otB md ops t (listed.setIfInBounds i true)
  | .one i t, listed => (Region.ready md ops listed == [i]) && otB md ops t (listed.setIfInBounds i true)
  | .two i t j u, listed => (Region.ready md ops listed == [i, j]) && otB md ops t (listed.setIfInBounds i true) && otB md ops u (listed.setIfInBounds j true)
def OT.depth : OT → Nat
  | .done => 0
  | .get _ t => t.depth + 1
  | .one _ t => t.depth + 1
  | .two _ t _ u => max t.depth u.depth + 1

theorem wpAnyH_of_ot (hs : Region.noSelect ops = true) (hQ : ∀ c a d v w, Q (.panic c) (a.put d v) w → Q (.panic c) a w) : ∀ (t : OT) (fuel : Nat) (listed : Array Bool) (a : Act) (w : World),
    otB md ops t listed = true → t.depth ≤ fuel → S w → wpT P ops Q S t a w → wpAnyH P md ops Q S fuel listed a w
  | .done, fuel, listed, a, w, hB, _, _, h => wpAnyH_done (by simpa [otB] using hB) h fuel
  | .get i t, 0, _, _, _, _, hf, _, _ => absurd hf (by simp [OT.depth])
  | .one i t, 0, _, _, _, _, hf, _, _ => absurd hf (by simp [OT.depth])
  | .two i t j u, 0, _, _, _, _, hf, _, _ => absurd hf (by simp [OT.depth])
  | .get i t, fuel + 1, listed, a, w, hB, hf, hS, h => by
    simp only [otB, Bool.and_eq_true] at hB
    obtain ⟨⟨h1, h2⟩, h3⟩ := hB
    obtain ⟨o, v, hi, hy, hr⟩ := h
    exact wpAnyH_take hi hs h1 h2 (fun c a w => hQ c a _ v w) hy hS (wpAnyH_of_ot hs hQ t fuel _ _ w h3 (by simpa [OT.depth] using hf) hS hr)
  | .one i t, fuel + 1, listed, a, w, hB, hf, hS, h => by
    simp only [otB, Bool.and_eq_true, beq_iff_eq] at hB
    obtain ⟨h1, h3⟩ := hB
    obtain ⟨o, hi, hr⟩ := h
    refine wpAnyH_all h1 (by simp) (fun j hj => ?_)
    obtain rfl : j = i := by simpa using hj
    exact wpOp_of_list hi (fun a' w' hK => ⟨hK.1, wpAnyH_of_ot hs hQ t fuel _ a' w' h3 (by simpa [OT.depth] using hf) hK.1 hK.2⟩) hr
  | .two i t j u, fuel + 1, listed, a, w, hB, hf, hS, h => by
    simp only [otB, Bool.and_eq_true, beq_iff_eq] at hB
    obtain ⟨⟨h1, h2⟩, h3⟩ := hB
    obtain ⟨⟨o, hi, hr⟩, ⟨o2, hj, hr2⟩⟩ := h
    simp only [OT.depth] at hf
    refine wpAnyH_all h1 (by simp) (fun k hk => ?_)
    have hk' : k = i ∨ k = j := by simpa using hk
    rcases hk' with rfl | rfl
    · exact wpOp_of_list hi (fun a' w' hK => ⟨hK.1, wpAnyH_of_ot hs hQ t fuel _ a' w' h2 (by omega) hK.1 hK.2⟩) hr
    · exact wpOp_of_list hj (fun a' w' hK => ⟨hK.1, wpAnyH_of_ot hs hQ u fuel _ a' w' h3 (by omega) hK.1 hK.2⟩) hr2

theorem wpT_get {i : Nat} {t : OT} {a : Act} {w : World} {o : Oper} {v : Value} (hi : ops[i]? = some o) (hw : Region.wanted o (yielded ops a.tmps) = true)
    (hv : ∀ w, S w → (execOp a.eval o).run P w = .ok (.value v) w) (h : ∀ K : Act → Prop, (∀ a, wpT P ops Q S t a w → K a) → K (a.put o.dst v)) : wpT P ops Q S (.get i t) a w :=
  ⟨o, v, hi, .inl ⟨hw, hv⟩, h _ fun _ h => h⟩
theorem wpT_one {i : Nat} {t : OT} {a : Act} {w : World} {o : Oper} (hi : ops[i]? = some o)
    (h : ∀ K : Act → World → Prop, (∀ a w, S w → wpT P ops Q S t a w → K a w) → wpList P ops (Exit.then K Q) [o] a w) : wpT P ops Q S (.one i t) a w :=
  ⟨o, hi, h _ fun _ _ h1 h2 => ⟨h1, h2⟩⟩
theorem wpT_two {i j : Nat} {t u : OT} {a : Act} {w : World} {o o2 : Oper} (hi : ops[i]? = some o) (hj : ops[j]? = some o2)
    (h : ∀ K : Act → World → Prop, (∀ a w, S w → wpT P ops Q S t a w → K a w) → wpList P ops (Exit.then K Q) [o] a w)
    (h2 : ∀ K : Act → World → Prop, (∀ a w, S w → wpT P ops Q S u a w → K a w) → wpList P ops (Exit.then K Q) [o2] a w) : wpT P ops Q S (.two i t j u) a w :=
  ⟨⟨o, hi, h _ fun _ _ h1 h2 => ⟨h1, h2⟩⟩, ⟨o2, hj, h2 _ fun _ _ h1 h2 => ⟨h1, h2⟩⟩⟩
theorem wpT_done {a : Act} {w : World} (h : Q .normal a w) : wpT P ops Q S .done a w := h
theorem wp_region_ot {id : Nat} {a : Act} {w : World} (S : World → Prop) (t : OT) (hm : P.follows .mixedOrders = true)
    (hB : (Region.noSelect ops && decide (t.depth ≤ ops.size) && otB .any ops t (Array.replicate ops.size false)) = true)
    (hQ : ∀ c a d v w, Q (.panic c) (a.put d v) w → Q (.panic c) a w) (hS : S w.drew) (h : wpT P ops Q S t a w.drew) : (Code.region id ops true).wp P Q a w := by
  simp only [Bool.and_eq_true, decide_eq_true_eq] at hB
  exact wp_region_held hm (wpAnyH_of_ot hB.1.1 hQ t _ _ a _ hB.2 hB.1.2 hS h)
theorem wpT_doneN {a : Act} {w : World} (h : Q .normal a w) : wpT P ops (NoPan Q) S .done a w := h
/-- The same, where nothing may panic. -/
theorem wp_region_otN {id : Nat} {a : Act} {w : World} (S : World → Prop) (t : OT) (hm : P.follows .mixedOrders = true)
    (hB : (Region.noSelect ops && decide (t.depth ≤ ops.size) && otB .any ops t (Array.replicate ops.size false)) = true)
    (hS : S w.drew) (h : wpT P ops (NoPan Q) S t a w.drew) : (Code.region id ops true).wp P Q a w :=
  Code.wp_mono NoPan.imp (wp_region_ot S t hm hB (fun _ _ _ _ _ h => h) hS h)
end
end Go.Proofs.Ytiecbgclkdlpkaa
