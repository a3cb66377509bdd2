/-
  A statement whose order Go leaves open, walked in one order that the kernel has reckoned: what only reads is taken ahead, if it reads the same in every world of S; what changes the world is taken where it alone can come up, and keeps S.
-/
import Derived.OrdersHeld
import Derived.Test.YtiecbgclkdlpkaaCut
namespace Go.Proofs.Ytiecbgclkdlpkaa
section
variable {P : Program} {ops : Array Oper} {md : Region.Mode} {Q : Exit → Act → World → Prop} {S : World → Prop}

/-- The walk in the order given: a number, and whether it is loud. -/
def wpOrd (P : Program) (ops : Array Oper) (Q : Exit → Act → World → Prop) (S : World → Prop) : List (Nat × Bool) → Act → World → Prop
  | [], a, w => Q .normal a w
  | (i, false) :: r, a, w => ∃ o v, ops[i]? = some o ∧ YieldsIf P ops S o v a ∧ wpOrd P ops Q S r (a.put o.dst v) w
  | (i, true) :: r, a, w => ∃ o, ops[i]? = some o ∧ wpList P ops (Exit.then (fun a' w' => S w' ∧ wpOrd P ops Q S r a' w') Q) [o] a w

/-- May they be taken so? -/
def ordB (md : Region.Mode) (ops : Array Oper) : List (Nat × Bool) → Array Bool → Bool
  | [], listed => (Region.ready md ops listed).isEmpty
  | (i, false) :: r, listed => Region.free md ops listed i && (Region.ready md ops listed).contains i && ordB md ops r (listed.setIfInBounds i true)
  | (i, true) :: r, listed => (Region.ready md ops listed == [i]) && ordB md ops r (listed.setIfInBounds i true)

theorem wpAnyH_of_ord (hs : Region.noSelect ops = true) (hQ : ∀ c a d v w, Q (.panic c) (a.put d v) w → Q (.panic c) a w) : ∀ (l : List (Nat × Bool)) (fuel : Nat) (listed : Array Bool) (a : Act) (w : World),
    ordB md ops l listed = true → l.length ≤ fuel → S w → wpOrd P ops Q S l a w → wpAnyH P md ops Q S fuel listed a w
  | [], fuel, listed, a, w, hB, _, _, h => wpAnyH_done (by simpa [ordB] using hB) h fuel
  | (i, false) :: r, 0, _, _, _, _, hf, _, _ => absurd hf (by simp)
  | (i, true) :: r, 0, _, _, _, _, hf, _, _ => absurd hf (by simp)
  | (i, false) :: r, fuel + 1, listed, a, w, hB, hf, hS, h => by
    simp only [ordB, Bool.and_eq_true] at hB
    obtain ⟨⟨h1, h2⟩, h3⟩ := hB
    obtain ⟨o, v, hi, hy, hr⟩ := h
    exact wpAnyH_take hi hs h1 h2 (fun c a w => hQ c a _ v w) hy hS (wpAnyH_of_ord hs hQ r fuel _ _ w h3 (by simpa using hf) hS hr)
  | (i, true) :: r, fuel + 1, listed, a, w, hB, hf, hS, h => by
    simp only [ordB, Bool.and_eq_true, beq_iff_eq] at hB
    obtain ⟨h1, h3⟩ := hB
    obtain ⟨o, hi, hr⟩ := h
    refine wpAnyH_all h1 (by simp) (fun j hj => ?_)
    obtain rfl : j = i := by simpa using hj
    exact wpOp_of_list hi (fun a' w' hK => ⟨hK.1, wpAnyH_of_ord hs hQ r fuel _ a' w' h3 (by simpa using hf) hK.1 hK.2⟩) hr

theorem wpOrd_get {i : Nat} {r : List (Nat × Bool)} {a : Act} {w : World} {o : Oper} {v : Value} (hi : ops[i]? = some o) (hw : Region.wanted o (yielded ops a.tmps) = true)
    (hv : ∀ w, S w → (execOp a.eval o).run P w = .ok (.value v) w) (h : ∀ K : Act → Prop, (∀ a, wpOrd P ops Q S r a w → K a) → K (a.put o.dst v)) : wpOrd P ops Q S ((i, false) :: r) a w :=
  ⟨o, v, hi, .inl ⟨hw, hv⟩, h _ fun _ h => h⟩
theorem wpOrd_skip {i : Nat} {r : List (Nat × Bool)} {a : Act} {w : World} {o : Oper} (hi : ops[i]? = some o) (hw : Region.wanted o (yielded ops a.tmps) = false)
    (h : ∀ K : Act → Prop, (∀ a, wpOrd P ops Q S r a w → K a) → K (a.put o.dst undef)) : wpOrd P ops Q S ((i, false) :: r) a w :=
  ⟨o, undef, hi, .inr ⟨hw, rfl⟩, h _ fun _ h => h⟩
theorem wpOrd_loud {i : Nat} {r : List (Nat × Bool)} {a : Act} {w : World} {o : Oper} (hi : ops[i]? = some o)
    (h : ∀ K : Act → World → Prop, (∀ a w, S w → wpOrd P ops Q S r a w → K a w) → wpList P ops (Exit.then K Q) [o] a w) : wpOrd P ops Q S ((i, true) :: r) a w :=
  ⟨o, hi, h _ fun _ _ h1 h2 => ⟨h1, h2⟩⟩
theorem wpOrd_nil {a : Act} {w : World} (h : Q .normal a w) : wpOrd P ops Q S [] a w := h

theorem wp_region_ord {id : Nat} {a : Act} {w : World} (S : World → Prop) (l : List (Nat × Bool)) (hm : P.follows .mixedOrders = true)
    (hB : (Region.noSelect ops && decide (l.length ≤ ops.size) && ordB .any ops l (Array.replicate ops.size false)) = true)
    (hQ : ∀ c a d v w, Q (.panic c) (a.put d v) w → Q (.panic c) a w) (hS : S w.drew) (h : wpOrd P ops Q S l a w.drew) : (Code.region id ops true).wp P Q a w := by
  simp only [Bool.and_eq_true, decide_eq_true_eq] at hB
  exact wp_region_held hm (wpAnyH_of_ord hB.1.1 hQ l _ _ a _ hB.2 hB.1.2 hS h)
/-- Q, but nothing at a panic. -/
def NoPan (Q : Exit → Act → World → Prop) : Exit → Act → World → Prop
  | .panic _, _, _ => False
  | e, a, w => Q e a w
theorem NoPan.imp {Q : Exit → Act → World → Prop} : ∀ (e : Exit) (a : Act) (w : World), NoPan Q e a w → Q e a w := fun e a w h => by
  cases e <;> first | exact h | exact (h : False).elim
theorem wpOrd_nilN {a : Act} {w : World} (h : Q .normal a w) : wpOrd P ops (NoPan Q) S [] a w := h
/-- The same, where nothing may panic. -/
theorem wp_region_ordN {id : Nat} {a : Act} {w : World} (S : World → Prop) (l : List (Nat × Bool)) (hm : P.follows .mixedOrders = true)
    (hB : (Region.noSelect ops && decide (l.length ≤ ops.size) && ordB .any ops l (Array.replicate ops.size false)) = true)
    (hS : S w.drew) (h : wpOrd P ops (NoPan Q) S l a w.drew) : (Code.region id ops true).wp P Q a w :=
  Code.wp_mono NoPan.imp (wp_region_ord S l hm hB (fun _ _ _ _ _ h => h) hS h)
end
end Go.Proofs.Ytiecbgclkdlpkaa
