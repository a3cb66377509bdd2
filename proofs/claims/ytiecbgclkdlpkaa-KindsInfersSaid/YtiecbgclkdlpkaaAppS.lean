/-
  Rows of structs that grow while some older blocks change. No condition.
-/
import Derived.Test.YtiecbgclkdlpkaaAppR
namespace Go.Proofs.Ytiecbgclkdlpkaa
open Go.RowKit
set_option linter.unusedVariables false

/-- While a row of what is made grows; blocks of S, all older than w, may change. -/
structure EachRowS {β : Type} (S : Nat → Prop) (w wr : World) (dd : β → List D) (sz : Nat) (e : TypeId) (v : Value) (ys : List β) (segs : List (List Value)) : Prop where
  low : ∀ i, S i → i < w.heap.size
  chg : Chg S w wr
  own : wr.ownsRow w.heap.size e sz v ys.length segs.flatten
  segs_len : segs.length = ys.length
  segs_sz : ∀ s ∈ segs, s.length = sz
  vals : ∀ i (h1 : i < ys.length) (h2 : i < segs.length), Vals (NewW w.heap.size v.ownBlock wr) (dd ys[i]) segs[i]
theorem EachRowS.start {β : Type} {S : Nat → Prop} (w : World) (hS : ∀ i, S i → i < w.heap.size) (dd : β → List D) (sz : Nat) (e : TypeId) : EachRowS S w w dd sz e (.slice none 0 0) ([] : List β) [] :=
  ⟨hS, Chg.refl _ _, World.ownsRow_nil _ _ _ _, rfl, fun s h => by simp at h, fun i h => absurd h (by simp)⟩
theorem EachRowS.keep {β : Type} {S : Nat → Prop} {w wr w' : World} {dd : β → List D} {sz : Nat} {e : TypeId} {v : Value} {ys : List β} {segs : List (List Value)} (h : EachRowS S w wr dd sz e v ys segs) (hc : Chg S wr w') : EachRowS S w w' dd sz e v ys segs :=
  ⟨h.low, h.chg.trans hc (fun _ _ q => q), own_apart hc h.low h.own, h.segs_len, h.segs_sz, fun i h1 h2 => (h.vals i h1 h2).sub (new_chg hc (fun k q _ => .inl (h.low k q)) (fun k q _ => .inr q))⟩
theorem EachRowS.next {β : Type} {S : Nat → Prop} {w wr w2 wA w' : World} {dd : β → List D} {sz : Nat} {e : TypeId} {v v' : Value} {ys : List β} {segs : List (List Value)} {y : β} {vs : List Value}
    (h : EachRowS S w wr dd sz e v ys segs) (hc : Chg (fun _ => False) wr w2) (hv : Vals (NewW wr.heap.size none w2) (dd y) vs) (hsz : vs.length = sz)
    (hA : Chg (fun _ => False) w2 wA) (ho : w'.ownsRow w.heap.size e sz v' (ys.length + 1) (segs.flatten ++ vs)) (hg : wA.grownBy w' v.ownBlock) (hr : v'.ownBlock = v.ownBlock ∨ v'.ownBlock = some wA.heap.size) :
    EachRowS S w w' dd sz e v' (ys ++ [y]) (segs ++ [vs]) := by
  have hw : w.heap.size ≤ wr.heap.size := h.chg.size
  have hlt : ∀ k, v.ownBlock = some k → w.heap.size ≤ k ∧ k < wr.heap.size := fun k hk => h.own.lt k hk
  have hc2 : Chg (fun k => v.ownBlock = some k) w2 w' := (hA.mono (fun _ _ q => q.elim)).grown hg (fun k _ e => e)
  refine ⟨h.low, ?_, ?_, by simp [h.segs_len], ?_, ?_⟩
  · exact (h.chg.trans hc (fun _ _ q => q.elim)).trans hc2 (fun i hi q => by have := (hlt i q).1; omega)
  · rw [List.length_append, List.flatten_append]
    simpa using ho
  · intro s hs'
    rcases List.mem_append.1 hs' with q | q
    · exact h.segs_sz s q
    · rw [List.mem_singleton.1 q]; exact hsz
  · intro i h1 h2
    by_cases hi : i < ys.length
    · have hi2 : i < segs.length := by rw [h.segs_len]; exact hi
      rw [List.getElem_append_left hi, List.getElem_append_left hi2]
      refine ((h.vals i hi hi2).sub (new_chg hc (g' := v.ownBlock) (fun k q _ => q.elim) (fun k q _ => .inr q))).sub (new_chg hc2 (fun k q _ => .inr q.symm) (fun k q hk => ?_))
      rcases hr with e | e
      · rw [e] at q; exact .inr q
      · rw [e] at q; injection q with q; have := hA.size; omega
    · have hi' : i = ys.length := by simp at h1; omega
      subst hi'
      have hsl := h.segs_len
      rw [List.getElem_append_right (Nat.le_refl _), List.getElem_append_right (by omega)]
      simp only [Nat.sub_self, hsl, List.getElem_cons_zero]
      refine hv.sub fun a u q => ?_
      obtain ⟨q1, q2⟩ := (new_cell _ _ _ _ _).1 q
      have hlt2 := World.block_lt_of_cell? w2 (a := a) q2
      have hge : wr.heap.size ≤ a.block := by
        rcases Nat.lt_or_ge a.block wr.heap.size with hx | hx
        · exact absurd (.inl hx) q1
        · exact hx
      refine (new_cell _ _ _ _ _).2 ⟨fun hx => ?_, hc2.cell q2 (fun hx => by have := (hlt _ hx).2; omega)⟩
      rcases hx with hx | hx
      · omega
      · rcases hr with e | e
        · rw [e] at hx; have := (hlt _ hx.symm).2; omega
        · rw [e] at hx; injection hx with hx; have := hA.size; omega
theorem EachRowS.done {β : Type} {S : Nat → Prop} {w wr : World} {dd : β → List D} {sz : Nat} {e : TypeId} {A : Option Addr} {c : Nat} {ys : List β} {segs : List (List Value)} (h : EachRowS S w wr dd sz e (.slice A ys.length c) ys segs) (hn : ys.length ≤ Reach) :
    DV (NewW w.heap.size none wr) (.lst sz (ys.map dd)) (.slice A ys.length c) := row_done h.own (Nat.le_refl _) hn h.segs_len h.segs_sz h.vals
end Go.Proofs.Ytiecbgclkdlpkaa
