/-
  Memory made since, apart from one row, none of it frozen.
-/
import Derived.Test.YtiecbgclkdlpkaaAppR
namespace Go.Proofs.Ytiecbgclkdlpkaa.fr
open Go.RowKit
set_option linter.unusedVariables false
set_option linter.unusedSimpArgs false

def freeO : Obj → Bool
  | .cells _ _ (0, 0) => true
  | _ => false
def FreeAt (w : World) (k : Nat) : Prop := ∃ o, w.heap[k]? = some o ∧ freeO o = true
def FCell (w : World) (a : Addr) (v : Value) : Prop := w.cell? a = some v ∧ FreeAt w a.block
/-- The world without the blocks below n, without block g, without what is frozen. -/
def NewW (n : Nat) (g : Option Nat) (w : World) : World := { w with heap := w.heap.mapIdx fun i o => if (i < n ∨ some i = g) ∨ freeO o = false then .cells #[] 0 (0, 0) else o }

theorem new_cell (n : Nat) (g : Option Nat) (w : World) (a : Addr) (v : Value) : (NewW n g w).cell? a = some v ↔ (¬ (a.block < n ∨ some a.block = g) ∧ FCell w a v) := by
  unfold FCell FreeAt World.cell? NewW
  simp only [Array.getElem?_mapIdx]
  cases h : w.heap[a.block]? with
  | none => simp
  | some o =>
    simp only [Option.map_some]
    by_cases hf : freeO o = true
    · by_cases hc : a.block < n ∨ some a.block = g
      · rw [if_pos (.inl hc)]; simp [hc]
      · rw [if_neg (by simp [hc, hf])]; simp [hc, hf]
    · rw [if_pos (.inr (by simpa using hf))]; simp [hf]
theorem _root_.Go.Proofs.Ytiecbgclkdlpkaa.Chg.fcell {S : Nat → Prop} {a b : World} (h : Chg S a b) {p : Addr} {v : Value} (hk : FCell a p v) (hs : ¬ S p.block) : FCell b p v := by
  obtain ⟨h1, o, h2, h3⟩ := hk
  exact ⟨h.cell h1 hs, o, h.heap h2 hs, h3⟩
theorem free_of {w : World} {k : Nat} {cs : Array Value} {T : TypeId} (h : w.heap[k]? = some (.cells cs T (0, 0))) : FreeAt w k := ⟨_, h, rfl⟩
theorem FCell.frozen {w : World} {a : Addr} {v : Value} (h : FCell w a v) (x : Addr) (hx : x.block = a.block) : w.frozen? x = false := by
  obtain ⟨-, o, h2, h3⟩ := h
  unfold World.frozen?
  rw [hx, h2]
  match o, h3 with
  | .cells _ _ (0, 0), _ => simp

theorem new_sub (n : Nat) (g : Option Nat) (w : World) : Sub (NewW n g w) w := fun a v h => ((new_cell n g w a v).1 h).2.1
theorem new_mono {n n' : Nat} (h : n ≤ n') (g : Option Nat) (w : World) : Sub (NewW n' g w) (NewW n g w) := fun a v q => by
  obtain ⟨h1, h2⟩ := (new_cell _ _ _ _ _).1 q
  exact (new_cell _ _ _ _ _).2 ⟨fun hx => h1 (hx.imp (fun e => Nat.lt_of_lt_of_le e h) id), h2⟩
theorem new_none (n : Nat) (g : Option Nat) (w : World) : Sub (NewW n g w) (NewW n none w) := fun a v q => by
  obtain ⟨h1, h2⟩ := (new_cell _ _ _ _ _).1 q
  exact (new_cell _ _ _ _ _).2 ⟨fun hx => hx.elim (fun e => h1 (.inl e)) (fun e => by cases e), h2⟩
theorem new_chg {S : Nat → Prop} {w w' : World} (h : Chg S w w') {n : Nat} {g g' : Option Nat} (hS : ∀ k, S k → k < w.heap.size → k < n ∨ some k = g) (hg : ∀ k, some k = g' → k < w.heap.size → k < n ∨ some k = g) : Sub (NewW n g w) (NewW n g' w') := fun a v q => by
  obtain ⟨h1, h2⟩ := (new_cell _ _ _ _ _).1 q
  have hlt := World.block_lt_of_cell? w (a := a) h2.1
  refine (new_cell _ _ _ _ _).2 ⟨fun hx => ?_, h.fcell h2 (fun hs => h1 (hS _ hs hlt))⟩
  rcases hx with hx | hx
  · exact h1 (.inl hx)
  · exact h1 (hg _ hx hlt)

/-- A row of structs that has been filled. -/
theorem row_done {α : Type} {dd : α → List D} {w : World} {base n0 size : Nat} {e : TypeId} {A : Option Addr} {c : Nat} {l : List α} {segs : List (List Value)} {g : Option Nat}
    (hown : w.ownsRow base e size (.slice A l.length c) l.length segs.flatten) (hb : n0 ≤ base) (hr : l.length ≤ Reach) (hlen : segs.length = l.length) (hsz : ∀ s ∈ segs, s.length = size)
    (hv : ∀ i (h1 : i < l.length) (h2 : i < segs.length), Vals (NewW n0 g w) (dd l[i]) segs[i]) : DV (NewW n0 none w) (.lst size (l.map dd)) (.slice A l.length c) := by
  simp only [DV, List.length_map]
  rcases hown.2 with ⟨h1, h2⟩ | ⟨g0, cap, cur, hA, hbg, hg, hnc, hcm, hcs, htake⟩
  · injection h1 with e1 e2 e3
    subst e1 e3
    rw [List.eq_nil_of_length_eq_zero e2]
    exact ⟨none, 0, rfl, Nat.le_refl _, Nat.zero_le _, by simp only [List.map_nil, Elems]⟩
  · have hcells := hown.cells (g := g0) (by rw [hA]; rfl)
    injection hA with e1 e2 e3
    subst e1 e3
    refine ⟨_, _, rfl, hnc, hr, Elems.mk fun k hk => ?_⟩
    have hk' : k < l.length := by simpa using hk
    rw [List.getElem_map]
    have hks : k < segs.length := by omega
    refine Vals.cells ((hv k hk' hks).sub (new_none _ _ _)) fun i v hi => ?_
    refine (new_cell _ _ _ _ _).2 ⟨fun hx => hx.elim (fun (e : g0 < n0) => by omega) (fun e => by cases e), ?_, free_of hg⟩
    have hil : i < size := by
      have h1 := (List.getElem?_eq_some_iff.1 hi).1
      rw [hsz _ (List.getElem_mem hks)] at h1
      exact h1
    have hfl : segs.flatten[k * size + i]? = some v := flat_at segs hsz k hks i v hi hil
    have := hcells (k * size + i) v hfl
    have ha : ∀ (b o k : Nat), (⟨b, o, none⟩ : Addr).add k = ⟨b, o + k, none⟩ := fun b o k => by unfold Addr.add; split <;> simp_all
    rw [ha] at this
    rw [show 0 + k * size + i = 0 + (k * size + i) by omega]
    exact this


/-- A struct by value, made anew. -/
def NewV {α : Type} (w : World) (dd : α → List D) (x : α) (e : Ending) (w' : World) : Prop := ∃ vs, e = .returned (.agg vs.toArray) ∧ Vals (NewW w.heap.size none w') (dd x) vs ∧ Below w.heap.size w w'
/-- A list, made anew, in a row of the call's own. -/
def NewL {α : Type} (w : World) (dd : α → List D) (sz : Nat) (xs : List α) (e : Ending) (w' : World) : Prop :=
  ∃ A c, e = .returned (.slice A xs.length c) ∧ DV (NewW w.heap.size none w') (.lst sz (xs.map dd)) (.slice A xs.length c) ∧ (∃ et segs, w'.ownsRow w.heap.size et sz (.slice A xs.length c) xs.length segs) ∧ Below w.heap.size w w'

/-- While a row of what is made grows. -/
structure EachRow {β : Type} (w wr : World) (dd : β → List D) (sz : Nat) (e : TypeId) (v : Value) (ys : List β) (segs : List (List Value)) : Prop where
  chg : Chg (fun _ => False) w wr
  own : wr.ownsRow w.heap.size e sz v ys.length segs.flatten
  segs_len : segs.length = ys.length
  segs_sz : ∀ s ∈ segs, s.length = sz
  vals : ∀ i (h1 : i < ys.length) (h2 : i < segs.length), Vals (NewW w.heap.size v.ownBlock wr) (dd ys[i]) segs[i]
theorem EachRow.start {β : Type} (w : World) (dd : β → List D) (sz : Nat) (e : TypeId) : EachRow w w dd sz e (.slice none 0 0) [] [] :=
  ⟨Chg.refl _ _, World.ownsRow_nil _ _ _ _, rfl, fun s h => by simp at h, fun i h => absurd h (by simp)⟩
theorem EachRow.next {β : Type} {w wr w2 wA w' : World} {dd : β → List D} {sz : Nat} {e : TypeId} {v v' : Value} {ys : List β} {segs : List (List Value)} {y : β} {vs : List Value}
    (h : EachRow w wr dd sz e v ys segs) (hc : Chg (fun _ => False) wr w2) (hv : Vals (NewW wr.heap.size none w2) (dd y) vs) (hsz : vs.length = sz)
    (hA : Chg (fun _ => False) w2 wA) (ho : w'.ownsRow w.heap.size e sz v' (ys.length + 1) (segs.flatten ++ vs)) (hg : wA.grownBy w' v.ownBlock) (hr : v'.ownBlock = v.ownBlock ∨ v'.ownBlock = some wA.heap.size) :
    EachRow w w' dd sz e v' (ys ++ [y]) (segs ++ [vs]) := by
  have hw : w.heap.size ≤ wr.heap.size := h.chg.size
  have hlt : ∀ k, v.ownBlock = some k → w.heap.size ≤ k ∧ k < wr.heap.size := fun k hk => h.own.lt k hk
  have hc2 : Chg (fun k => v.ownBlock = some k) w2 w' := (hA.mono (fun _ _ q => q.elim)).grown hg (fun k _ e => e)
  refine ⟨?_, ?_, by simp [h.segs_len], ?_, ?_⟩
  · exact (h.chg.trans hc (fun _ _ q => q)).trans hc2 (fun i hi q => by have := (hlt i q).1; omega)
  · rw [List.length_append, List.flatten_append]
    simpa using ho
  · intro s hs'
    rcases List.mem_append.1 hs' with q | q
    · exact h.segs_sz s q
    · rw [List.mem_singleton.1 q]; exact hsz
  · intro i h1 h2
    by_cases hi : i < ys.length
    · have hi2 : i < segs.length := by rw [h.segs_len]; exact hi
      rw [List.getElem_append_left hi, List.getElem_append_left hi2]
      refine ((h.vals i hi hi2).sub (new_chg hc (g' := v.ownBlock) (fun k q _ => q.elim) (fun k q _ => .inr q))).sub (new_chg hc2 (fun k q _ => .inr q.symm) (fun k q hk => ?_))
      rcases hr with e | e
      · rw [e] at q; exact .inr q
      · rw [e] at q; injection q with q; have := hA.size; omega
    · have hi' : i = ys.length := by simp at h1; omega
      subst hi'
      have hsl := h.segs_len
      rw [List.getElem_append_right (Nat.le_refl _), List.getElem_append_right (by omega)]
      simp only [Nat.sub_self, hsl, List.getElem_cons_zero]
      refine hv.sub fun a u q => ?_
      obtain ⟨q1, q2⟩ := (new_cell _ _ _ _ _).1 q
      have hlt2 := World.block_lt_of_cell? w2 (a := a) q2.1
      have hge : wr.heap.size ≤ a.block := by
        rcases Nat.lt_or_ge a.block wr.heap.size with hx | hx
        · exact absurd (.inl hx) q1
        · exact hx
      refine (new_cell _ _ _ _ _).2 ⟨fun hx => ?_, hc2.fcell q2 (fun hx => by have := (hlt _ hx).2; omega)⟩
      rcases hx with hx | hx
      · omega
      · rcases hr with e | e
        · rw [e] at hx; have := (hlt _ hx.symm).2; omega
        · rw [e] at hx; injection hx with hx; have := hA.size; omega
theorem EachRow.done {β : Type} {w wr : World} {dd : β → List D} {sz : Nat} {e : TypeId} {A : Option Addr} {c : Nat} {ys : List β} {segs : List (List Value)} (h : EachRow w wr dd sz e (.slice A ys.length c) ys segs) (hn : ys.length ≤ Reach) : NewL w dd sz ys (.returned (.slice A ys.length c)) wr :=
  ⟨A, c, rfl, row_done h.own (Nat.le_refl _) hn h.segs_len h.segs_sz h.vals, ⟨e, _, h.own⟩, h.chg.below⟩
end Go.Proofs.Ytiecbgclkdlpkaa.fr

