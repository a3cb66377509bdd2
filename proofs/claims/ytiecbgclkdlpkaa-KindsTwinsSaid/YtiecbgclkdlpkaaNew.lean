/-
  What lies in memory made since, apart from one row: so as a world of its own; a row of structs that has been filled, as a slice that reads. No condition.
-/
import Derived.Test.YtiecbgclkdlpkaaData
namespace Go.Proofs.Ytiecbgclkdlpkaa
open Go.RowKit
set_option linter.unusedVariables false

/-- The world without the blocks below n and without block g. -/
def NewW (n : Nat) (g : Option Nat) (w : World) : World := { w with heap := w.heap.mapIdx fun i o => if i < n ∨ some i = g then .cells #[] 0 (0, 0) else o }

theorem new_cell (n : Nat) (g : Option Nat) (w : World) (a : Addr) (v : Value) : (NewW n g w).cell? a = some v ↔ (¬ (a.block < n ∨ some a.block = g) ∧ w.cell? a = some v) := by
  unfold World.cell? NewW
  simp only [Array.getElem?_mapIdx]
  cases h : w.heap[a.block]? with
  | none => simp
  | some o =>
    simp only [Option.map_some]
    by_cases hc : a.block < n ∨ some a.block = g
    · rw [if_pos hc]; simp [hc]
    · rw [if_neg hc]; simp [hc]

theorem new_sub (n : Nat) (g : Option Nat) (w : World) : Sub (NewW n g w) w := fun a v h => ((new_cell n g w a v).1 h).2
theorem new_mono {n n' : Nat} (h : n ≤ n') (g : Option Nat) (w : World) : Sub (NewW n' g w) (NewW n g w) := fun a v q => by
  obtain ⟨h1, h2⟩ := (new_cell _ _ _ _ _).1 q
  exact (new_cell _ _ _ _ _).2 ⟨fun hx => h1 (hx.imp (fun e => Nat.lt_of_lt_of_le e h) id), h2⟩
theorem new_none (n : Nat) (g : Option Nat) (w : World) : Sub (NewW n g w) (NewW n none w) := fun a v q => by
  obtain ⟨h1, h2⟩ := (new_cell _ _ _ _ _).1 q
  exact (new_cell _ _ _ _ _).2 ⟨fun hx => hx.elim (fun e => h1 (.inl e)) (fun e => by cases e), h2⟩
theorem new_chg {S : Nat → Prop} {w w' : World} (h : Chg S w w') {n : Nat} {g g' : Option Nat} (hS : ∀ k, S k → k < w.heap.size → k < n ∨ some k = g) (hg : ∀ k, some k = g' → k < w.heap.size → k < n ∨ some k = g) : Sub (NewW n g w) (NewW n g' w') := fun a v q => by
  obtain ⟨h1, h2⟩ := (new_cell _ _ _ _ _).1 q
  have hlt := World.block_lt_of_cell? w (a := a) h2
  refine (new_cell _ _ _ _ _).2 ⟨fun hx => ?_, h.cell h2 (fun hs => h1 (hS _ hs hlt))⟩
  rcases hx with hx | hx
  · exact h1 (.inl hx)
  · exact h1 (hg _ hx hlt)

theorem flat_at {size : Nat} : ∀ (segs : List (List Value)) (hsz : ∀ s ∈ segs, s.length = size) (k : Nat) (hk : k < segs.length) (i : Nat) (v : Value), segs[k][i]? = some v → i < size → segs.flatten[k * size + i]? = some v
  | [], _, k, hk, _, _, _, _ => absurd hk (by simp)
  | s :: r, hsz, 0, _, i, v, hi, hil => by
    have hs := hsz s (by simp)
    rw [List.flatten_cons, Nat.zero_mul, Nat.zero_add, List.getElem?_append_left (by omega)]
    simpa using hi
  | s :: r, hsz, k + 1, hk, i, v, hi, hil => by
    have hs := hsz s (by simp)
    rw [List.flatten_cons, List.getElem?_append_right (by rw [hs, Nat.add_mul]; omega), hs, show (k + 1) * size + i - size = k * size + i by rw [Nat.add_mul]; omega]
    exact flat_at r (fun x hx => hsz x (List.mem_cons_of_mem _ hx)) k (by simpa using hk) i v (by simpa using hi) hil
/-- A row of structs that has been filled. -/
theorem row_done {α : Type} {dd : α → List D} {w : World} {base n0 size : Nat} {e : TypeId} {A : Option Addr} {c : Nat} {l : List α} {segs : List (List Value)} {g : Option Nat}
    (hown : w.ownsRow base e size (.slice A l.length c) l.length segs.flatten) (hb : n0 ≤ base) (hr : l.length ≤ Reach) (hlen : segs.length = l.length) (hsz : ∀ s ∈ segs, s.length = size)
    (hv : ∀ i (h1 : i < l.length) (h2 : i < segs.length), Vals (NewW n0 g w) (dd l[i]) segs[i]) : DV (NewW n0 none w) (.lst size (l.map dd)) (.slice A l.length c) := by
  simp only [DV, List.length_map]
  rcases hown.2 with ⟨h1, h2⟩ | ⟨g0, cap, cur, hA, hbg, hg, hnc, hcm, hcs, htake⟩
  · injection h1 with e1 e2 e3
    subst e1 e3
    rw [List.eq_nil_of_length_eq_zero e2]
    exact ⟨none, 0, rfl, Nat.le_refl _, Nat.zero_le _, by simp only [List.map_nil, Elems]⟩
  · have hcells := hown.cells (g := g0) (by rw [hA]; rfl)
    injection hA with e1 e2 e3
    subst e1 e3
    refine ⟨_, _, rfl, hnc, hr, Elems.mk fun k hk => ?_⟩
    have hk' : k < l.length := by simpa using hk
    rw [List.getElem_map]
    have hks : k < segs.length := by omega
    refine Vals.cells ((hv k hk' hks).sub (new_none _ _ _)) fun i v hi => ?_
    refine (new_cell _ _ _ _ _).2 ⟨fun hx => hx.elim (fun (e : g0 < n0) => by omega) (fun e => by cases e), ?_⟩
    have hil : i < size := by
      have h1 := (List.getElem?_eq_some_iff.1 hi).1
      rw [hsz _ (List.getElem_mem hks)] at h1
      exact h1
    have hfl : segs.flatten[k * size + i]? = some v := flat_at segs hsz k hks i v hi hil
    have := hcells (k * size + i) v hfl
    have ha : ∀ (b o k : Nat), (⟨b, o, none⟩ : Addr).add k = ⟨b, o + k, none⟩ := fun b o k => by unfold Addr.add; split <;> simp_all
    rw [ha] at this
    rw [show 0 + k * size + i = 0 + (k * size + i) by omega]
    exact this
end Go.Proofs.Ytiecbgclkdlpkaa
