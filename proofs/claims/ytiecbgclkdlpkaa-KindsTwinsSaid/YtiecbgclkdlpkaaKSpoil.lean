/-
  While what a list of fields made anew holds is spoilt: names, and the types' own elements. No condition.
-/
import Derived.Test.YtiecbgclkdlpkaaKMethCF
namespace Go.Proofs.Ytiecbgclkdlpkaa.fr
open Go.RowKit
set_option linter.unusedVariables false

def Spoil (S : Nat → Prop) (A : Option Addr) (L : List Fld) (W wr : World) : Prop :=
  Chg S W wr ∧ ∀ i (h : i < L.length), ∃ g o A4 c4, A = some ⟨g, o, none⟩ ∧ S g ∧ (∃ v, wr.cell? ⟨g, o + i * 6, none⟩ = some v) ∧ (∀ x, wr.frozen? ⟨g, x, none⟩ = false) ∧ wr.cell? ⟨g, o + i * 6 + 4, none⟩ = some (.slice A4 L[i].type.args.length c4) ∧ L[i].type.args.length ≤ Reach
    ∧ ∀ k, k < L[i].type.args.length → ∃ b p, A4 = some ⟨b, p, none⟩ ∧ S b ∧ b ≠ g ∧ (∀ x, wr.frozen? ⟨b, x, none⟩ = false) ∧ ∀ j, j < 5 → ∃ v, wr.cell? ⟨b, p + k * 5 + j, none⟩ = some v

theorem cell_set_some {w : World} {p q : Addr} {x v : Value} (h : w.cell? q = some v) : ∃ v', (w.setCell p x).cell? q = some v' := by
  by_cases e : p = q
  · subst e; exact ⟨x, World.cell?_setCell_same w p x h⟩
  · exact ⟨v, (World.cell?_setCell_other w p q x e).trans h⟩

theorem Spoil.set {S : Nat → Prop} {A : Option Addr} {L : List Fld} {W wr : World} (h : Spoil S A L W wr) {p : Addr} (hS : S p.block) (hne : ∀ i, i < L.length → ∀ g o, A = some ⟨g, o, none⟩ → p ≠ ⟨g, o + i * 6 + 4, none⟩) (u : Value) : Spoil S A L W (wr.setCell p u) := by
  refine ⟨h.1.setCell (fun _ => hS) u, fun i hi => ?_⟩
  obtain ⟨g, o, A4, c4, hA, hg, ⟨v, hv⟩, hf, h4, hr, ha⟩ := h.2 i hi
  refine ⟨g, o, A4, c4, hA, hg, cell_set_some hv, fun x => (World.frozen?_setCell _ _ _ _).trans (hf x), (World.cell?_setCell_other _ _ _ _ (hne i hi g o hA)).trans h4, hr, fun k hk => ?_⟩
  obtain ⟨b, q, e4, hb, hbg, hbf, hc⟩ := ha k hk
  refine ⟨b, q, e4, hb, hbg, fun x => (World.frozen?_setCell _ _ _ _).trans (hbf x), fun j hj => ?_⟩
  obtain ⟨v, hv⟩ := hc j hj
  exact cell_set_some hv
theorem Spoil.arg {S : Nat → Prop} {g o : Nat} {L : List Fld} {W wr : World} (h : Spoil S (some ⟨g, o, none⟩) L W wr) {b : Nat} (hS : S b) (hbg : b ≠ g) (x : Nat) (u : Value) : Spoil S (some ⟨g, o, none⟩) L W (wr.setCell ⟨b, x, none⟩ u) :=
  h.set (p := ⟨b, x, none⟩) hS (fun i hi g' o' e q => by
    injection e with e; injection e with e1 e2; injection q with q1 q2
    exact hbg (q1.trans e1.symm)) u
theorem Spoil.name {S : Nat → Prop} {g o : Nat} {L : List Fld} {W wr : World} (h : Spoil S (some ⟨g, o, none⟩) L W wr) (hS : S g) (n : Nat) (u : Value) : Spoil S (some ⟨g, o, none⟩) L W (wr.setCell ⟨g, o + n * 6, none⟩ u) :=
  h.set (p := ⟨g, o + n * 6, none⟩) hS (fun i hi g' o' e q => by
    injection e with e; injection e with e1 e2; injection q with q1 q2
    omega) u
theorem frozen_later {w w' : World} (h : Chg (fun _ => False) w w') {a q : Addr} {v : Value} (hc : w.cell? a = some v) (hq : q.block = a.block) (hf : w.frozen? q = false) : w'.frozen? q = false := by
  have hlt := World.block_lt_of_cell? w (a := a) hc
  unfold World.frozen? at hf ⊢
  rw [hq] at hf ⊢
  rw [h.block a.block hlt id]
  exact hf
theorem Spoil.move {S : Nat → Prop} {A : Option Addr} {L : List Fld} {w w' : World} (h : Spoil S A L w w) (hc : Chg (fun _ => False) w w') : Spoil S A L w' w' := by
  refine ⟨Chg.refl _ _, fun i hi => ?_⟩
  obtain ⟨g, o, A4, c4, hA, hg, ⟨v, hv⟩, hf, h4, hr, ha⟩ := h.2 i hi
  refine ⟨g, o, A4, c4, hA, hg, ⟨v, hc.cell hv id⟩, fun x => frozen_later hc hv rfl (hf x), hc.cell h4 id, hr, fun k hk => ?_⟩
  obtain ⟨b, q, e4, hb, hbg, hbf, hk5⟩ := ha k hk
  obtain ⟨v0, hv0⟩ := hk5 0 (by omega)
  refine ⟨b, q, e4, hb, hbg, fun x => frozen_later hc hv0 rfl (hbf x), fun j hj => ?_⟩
  obtain ⟨v, hv⟩ := hk5 j hj
  exact ⟨v, hc.cell hv id⟩
theorem Spoil.start {w0 w : World} {et : TypeId} {A : Option Addr} {c : Nat} {L : List Fld} {segs : List (List Value)} (h : EachRow w0 w Fld.d 6 et (.slice A L.length c) L segs) {S : Nat → Prop} (hS : ∀ k, w0.heap.size ≤ k → k < w.heap.size → S k) : Spoil S A L w w := by
  refine ⟨Chg.refl _ _, fun i hi => ?_⟩
  have hi2 : i < segs.length := by rw [h.segs_len]; exact hi
  have hv := h.vals i hi hi2
  rcases h.own.2 with ⟨h1, h2⟩ | ⟨g, cap, cur, hA, hbg, hg, hnc, hcm, hcs, htake⟩
  · omega
  have hcells := h.own.cells (g := g) (by rw [hA]; rfl)
  injection hA with e1 e2 e3
  subst e1
  obtain ⟨A4, c4, A5, c5, hseg, q0, q1, q2, q3, q4, q5⟩ := Fld.opn hv
  have hat : ∀ (j : Nat) (v : Value), j < 6 → segs[i][j]? = some v → w.cell? ⟨g, 0 + i * 6 + j, none⟩ = some v := fun j v hj hs => by
    have := hcells (i * 6 + j) v (flat_at segs h.segs_sz i hi2 j v hs hj)
    have ha : ∀ (b o k : Nat), (⟨b, o, none⟩ : Addr).add k = ⟨b, o + k, none⟩ := fun b o k => by unfold Addr.add; split <;> simp_all
    rw [ha] at this
    rw [show 0 + i * 6 + j = 0 + (i * 6 + j) by omega]
    exact this
  have c0 := hat 0 (.string L[i].name) (by omega) (by rw [hseg]; rfl)
  have hglt := World.block_lt_of_cell? w (a := ⟨g, 0 + i * 6 + 0, none⟩) c0
  refine ⟨g, 0, A4, c4, rfl, hS _ hbg hglt, ⟨_, c0⟩, fun x => free_at hg x, hat 4 _ (by omega) (by rw [hseg]; rfl), q4.2.2.1, fun k hk => ?_⟩
  obtain ⟨b, p, hA4, B3, d3, B4, d4, e0, e1, e2, e3, e4, -⟩ := Ty.at q4.2.2.2 k hk
  have hm := fun (j : Nat) (v : Value) (hc : (NewW w0.heap.size (Value.slice (some ⟨g, 0, none⟩) L.length c).ownBlock w).cell? ⟨b, p + k * 5 + j, none⟩ = some v) => (new_cell _ _ _ _ _).1 hc
  obtain ⟨n0, f0⟩ := hm 0 _ e0
  have hblt := World.block_lt_of_cell? w (a := ⟨b, p + k * 5 + 0, none⟩) f0.1
  refine ⟨b, p, hA4, hS _ (Nat.le_of_not_lt fun hx => n0 (.inl hx)) hblt, fun hx => n0 (.inr (by rw [← hx]; rfl)), fun x => f0.frozen ⟨b, x, none⟩ rfl, fun j hj => ?_⟩
  match j, hj with
  | 0, _ => exact ⟨_, f0.1⟩
  | 1, _ => exact ⟨_, (hm 1 _ e1).2.1⟩
  | 2, _ => exact ⟨_, (hm 2 _ e2).2.1⟩
  | 3, _ => exact ⟨_, (hm 3 _ e3).2.1⟩
  | 4, _ => exact ⟨_, (hm 4 _ e4).2.1⟩
end Go.Proofs.Ytiecbgclkdlpkaa.fr
