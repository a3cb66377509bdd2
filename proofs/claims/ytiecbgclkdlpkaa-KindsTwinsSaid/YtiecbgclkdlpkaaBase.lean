/-
  Words on worlds and readings that all walks of this seat share: what a change of the world may touch, and plain data as they lie in cells. No condition.
-/
import Derived.WalkKit
import Derived.WalkSpells
import Derived.Lib.Hide
import Derived.OneCell
import Derived.Deep.Draws
import Derived.ChangeArms
namespace Go.Proofs.Ytiecbgclkdlpkaa
open Go.RowKit

/-! ### 1. Worlds -/
/-- w' is w but for the blocks of S; new blocks may have come. -/
structure Chg (S : Nat → Prop) (w w' : World) : Prop where
  os : w'.os = w.os
  tape : w'.tape = w.tape
  output : w'.output = w.output
  size : w.heap.size ≤ w'.heap.size
  block : ∀ k, k < w.heap.size → ¬ S k → w'.heap[k]? = w.heap[k]?

theorem Chg.refl (S : Nat → Prop) (w : World) : Chg S w w := ⟨rfl, rfl, rfl, Nat.le_refl _, fun _ _ _ => rfl⟩
theorem Chg.trans {S S' : Nat → Prop} {a b c : World} (h : Chg S a b) (k : Chg S' b c) (hs : ∀ i, i < a.heap.size → S' i → S i) : Chg S a c :=
  ⟨k.os.trans h.os, k.tape.trans h.tape, k.output.trans h.output, Nat.le_trans h.size k.size,
    fun i hi hn => (k.block i (Nat.lt_of_lt_of_le hi h.size) (fun q => hn (hs i hi q))).trans (h.block i hi hn)⟩
theorem Chg.mono {S S' : Nat → Prop} {a b : World} (h : Chg S a b) (hs : ∀ i, i < a.heap.size → S i → S' i) : Chg S' a b :=
  ⟨h.os, h.tape, h.output, h.size, fun i hi hn => h.block i hi (fun q => hn (hs i hi q))⟩
theorem Chg.alloc {S : Nat → Prop} {a b : World} (h : Chg S a b) (o : Obj) : Chg S a (b.alloc o) :=
  h.trans (S' := fun _ => False) ⟨rfl, rfl, rfl, by simp, fun k hk _ => Below.heap_alloc _ _ _ hk⟩ (fun _ _ h => h.elim)
theorem Chg.drew {S : Nat → Prop} {a b : World} (h : Chg S a b) : Chg S a b.drew := ⟨h.os, h.tape, h.output, h.size, h.block⟩
theorem Chg.drewN {S : Nat → Prop} {a b : World} (h : Chg S a b) (n : Nat) : Chg S a (b.drewN n) := ⟨h.os, h.tape, h.output, h.size, h.block⟩
theorem Chg.setCell {S : Nat → Prop} {a b : World} (h : Chg S a b) {p : Addr} (hp : p.block < a.heap.size → S p.block) (u : Value) : Chg S a (b.setCell p u) :=
  h.trans (S' := fun k => k = p.block) ⟨rfl, rfl, rfl, by simp, fun k _ hk => Below.heap_setCell _ _ _ _ hk⟩ (fun i hi e => by subst e; exact hp hi)
theorem Chg.grown {S : Nat → Prop} {a b c : World} (h : Chg S a b) {row : Option Nat} (hg : b.grownBy c row) (hr : ∀ k, k < a.heap.size → row = some k → S k) : Chg S a c :=
  h.trans (S' := fun k => row = some k) ⟨hg.os, hg.tape, hg.output, hg.size, fun k hk hn => hg.block k hk (fun e => hn e.symm)⟩ (fun i hi e => hr i hi e)
theorem Chg.below {a b : World} (h : Chg (fun _ => False) a b) : Below a.heap.size a b :=
  ⟨h.os, h.tape, h.output, h.size, fun k hk => h.block k hk id⟩
theorem Chg.of_below {a b : World} (h : Below a.heap.size a b) (S : Nat → Prop) : Chg S a b :=
  ⟨h.os, h.tape, h.output, h.size, fun k hk _ => h.block k hk⟩
/-- What lay below B stands, as S lies from B on. -/
theorem Below.chg {B : Nat} {S : Nat → Prop} {z a b : World} (h : Below B z a) (k : Chg S a b) (hB : B ≤ a.heap.size) (hs : ∀ i, S i → B ≤ i) : Below B z b :=
  h.trans ⟨k.os, k.tape, k.output, k.size, fun i hi => k.block i (by omega) (fun q => by have := hs i q; omega)⟩
theorem Chg.heap {S : Nat → Prop} {a b : World} (h : Chg S a b) {k : Nat} {o : Obj} (hk : a.heap[k]? = some o) (hs : ¬ S k) : b.heap[k]? = some o := by
  rw [h.block k (lt_of_block hk) hs]; exact hk
theorem Chg.cell {S : Nat → Prop} {a b : World} (h : Chg S a b) {p : Addr} {v : Value} (hk : a.cell? p = some v) (hs : ¬ S p.block) : b.cell? p = some v :=
  (World.cell?_of_block (h.block p.block (World.block_lt_of_cell? a (a := p) hk) hs)).trans hk

theorem cell_at {w : World} {k : Nat} {cs : Array Value} {t : TypeId} {fr : Nat × Nat} (h : w.heap[k]? = some (.cells cs t fr)) (i : Nat) : w.cell? ⟨k, i, none⟩ = cs[i]? := by
  simp [World.cell?, h]
theorem free_at {w : World} {k : Nat} {cs : Array Value} {t : TypeId} (h : w.heap[k]? = some (.cells cs t (0, 0))) (i : Nat) : w.frozen? ⟨k, i, none⟩ = false := by
  simp [World.frozen?, h]
theorem set_at {w : World} {k : Nat} {cs : Array Value} {t : TypeId} {fr : Nat × Nat} (h : w.heap[k]? = some (.cells cs t fr)) (i : Nat) (u : Value) :
    (w.setCell ⟨k, i, none⟩ u).heap[k]? = some (.cells (cs.setIfInBounds i u) t fr) := by
  simp [World.setCell, h, Array.getElem?_modify]
theorem alloc_at (w : World) (o : Obj) : (w.alloc o).heap[w.heap.size]? = some o := heap_alloc_new w o
theorem alloc_old {w : World} {k : Nat} {x : Obj} (h : w.heap[k]? = some x) (o : Obj) : (w.alloc o).heap[k]? = some x := by
  rw [Below.heap_alloc _ _ _ (lt_of_block h)]; exact h
theorem set_old {w : World} {k : Nat} {x : Obj} (h : w.heap[k]? = some x) {p : Addr} (hp : k ≠ p.block) (u : Value) : (w.setCell p u).heap[k]? = some x := by
  rw [Below.heap_setCell _ _ _ _ hp]; exact h

theorem own_slice {w : World} {base n : Nat} {e : TypeId} {size : Nat} {v : Value} {xs : List Value} (h : w.ownsRow base e size v n xs) : ∃ A c, v = .slice A n c := by
  rcases h.2 with ⟨rfl, rfl⟩ | ⟨g, cap, cur, rfl, _⟩
  · exact ⟨none, 0, rfl⟩
  · exact ⟨_, cap, rfl⟩

/-- Whatever cell w holds, w' holds too. -/
def Sub (w w' : World) : Prop := ∀ a v, w.cell? a = some v → w'.cell? a = some v
theorem Sub.refl (w : World) : Sub w w := fun _ _ h => h
theorem Sub.trans {a b c : World} (h : Sub a b) (k : Sub b c) : Sub a c := fun x v hx => k x v (h x v hx)
theorem Below.sub {a b : World} (h : Below a.heap.size a b) : Sub a b := fun p _ hp => (h.cell (World.block_lt_of_cell? a (a := p) hp)).trans hp

/-! ### 2. Plain data, a cell each -/
/-- What one cell says: a number of 64 bits, a bool, a string, a byte, a slice of elements of sz cells each. -/
inductive D where
  | num (n : Int)
  | boo (b : Bool)
  | str (s : ByteArray)
  | byt (b : UInt8)
  | lst (sz : Nat) (l : List (List D))

def In64 (n : Int) : Prop := -9223372036854775808 ≤ n ∧ n ≤ 9223372036854775807
/-- The reach: 2^47 - 4096. -/
def Reach : Nat := 140737488351232

mutual
/-- The value of a cell says d. -/
def DV (w : World) : D → Value → Prop
  | .num n, v => v = .int .i64 n ∧ In64 n
  | .boo b, v => v = .bool b
  | .str s, v => v = .string s ∧ s.size ≤ Reach
  | .byt b, v => v = .int .u8 b.toNat
  | .lst sz l, v => ∃ A c, v = .slice A l.length c ∧ l.length ≤ c ∧ l.length ≤ Reach ∧ Elems w sz l A
/-- The elements from an address on. -/
def Elems (w : World) (sz : Nat) : List (List D) → Option Addr → Prop
  | [], _ => True
  | e :: es, A => ∃ b o, A = some ⟨b, o, none⟩ ∧ Cells w e b o ∧ Elems w sz es (some ⟨b, o + sz, none⟩)
/-- The cells of one element. -/
def Cells (w : World) : List D → Nat → Nat → Prop
  | [], _, _ => True
  | d :: ds, b, o => (∃ v, w.cell? ⟨b, o, none⟩ = some v ∧ DV w d v) ∧ Cells w ds b (o + 1)
end

/-- The values of a struct by value. -/
def Vals (w : World) : List D → List Value → Prop
  | [], vs => vs = []
  | d :: ds, vs => ∃ v r, vs = v :: r ∧ DV w d v ∧ Vals w ds r

mutual
theorem DV.sub {w w' : World} (h : Sub w w') : ∀ {d : D} {v : Value}, DV w d v → DV w' d v
  | .num _, _, q => by simpa only [DV] using q
  | .boo _, _, q => by simpa only [DV] using q
  | .str _, _, q => by simpa only [DV] using q
  | .byt _, _, q => by simpa only [DV] using q
  | .lst sz l, _, q => by
    simp only [DV] at q ⊢
    obtain ⟨A, c, hv, hc, hr, hE⟩ := q
    exact ⟨A, c, hv, hc, hr, Elems.sub h hE⟩
theorem Elems.sub {w w' : World} (h : Sub w w') {sz : Nat} : ∀ {l : List (List D)} {A : Option Addr}, Elems w sz l A → Elems w' sz l A
  | [], _, _ => by simp only [Elems]
  | e :: es, _, q => by
    simp only [Elems] at q ⊢
    obtain ⟨b, o, hA, hc, hE⟩ := q
    exact ⟨b, o, hA, Cells.sub h hc, Elems.sub h hE⟩
theorem Cells.sub {w w' : World} (h : Sub w w') : ∀ {l : List D} {b o : Nat}, Cells w l b o → Cells w' l b o
  | [], _, _, _ => by simp only [Cells]
  | d :: ds, b, o, q => by
    simp only [Cells] at q ⊢
    obtain ⟨⟨v, hv, hd⟩, hr⟩ := q
    exact ⟨⟨v, h _ _ hv, DV.sub h hd⟩, Cells.sub h hr⟩
end

theorem Vals.sub {w w' : World} (h : Sub w w') : ∀ {l : List D} {vs : List Value}, Vals w l vs → Vals w' l vs
  | [], _, q => q
  | _ :: _, _, ⟨v, r, e, hd, hr⟩ => ⟨v, r, e, hd.sub h, Vals.sub h hr⟩
theorem Vals.length {w : World} : ∀ {l : List D} {vs : List Value}, Vals w l vs → vs.length = l.length
  | [], vs, q => by simp [show vs = [] from q]
  | _ :: _, _, ⟨v, r, e, _, hr⟩ => by subst e; simp [Vals.length hr]

/-- Element k of a slice: its cells. -/
theorem Elems.at {w : World} {sz : Nat} : ∀ {l : List (List D)} {A : Option Addr}, Elems w sz l A → ∀ (k : Nat) (hk : k < l.length), ∃ b o, A = some ⟨b, o, none⟩ ∧ Cells w l[k] b (o + k * sz)
  | [], _, _, k, hk => absurd hk (by simp)
  | e :: es, A, q, k, hk => by
    simp only [Elems] at q
    obtain ⟨b, o, rfl, hc, hE⟩ := q
    cases k with
    | zero => exact ⟨b, o, rfl, by simpa using hc⟩
    | succ k =>
      obtain ⟨b', o', hA, hcc⟩ := Elems.at hE k (by simpa using hk)
      simp only [Option.some.injEq, Addr.mk.injEq, and_true] at hA
      obtain ⟨rfl, rfl⟩ := hA
      refine ⟨b, o, rfl, ?_⟩
      have : o + (k + 1) * sz = o + sz + k * sz := by rw [Nat.add_mul]; omega
      rw [this]
      simpa using hcc

/-- From the cells to the values. -/
theorem Cells.vals {w : World} : ∀ {l : List D} {b o : Nat}, Cells w l b o → ∃ vs, Vals w l vs ∧ ∀ i v, vs[i]? = some v → w.cell? ⟨b, o + i, none⟩ = some v
  | [], _, _, _ => ⟨[], rfl, fun i v h => by simp at h⟩
  | d :: ds, b, o, q => by
    simp only [Cells] at q
    obtain ⟨⟨v, hv, hd⟩, hr⟩ := q
    obtain ⟨vs, h1, h2⟩ := Cells.vals hr
    refine ⟨v :: vs, ⟨v, vs, rfl, hd, h1⟩, fun i u h => ?_⟩
    cases i with
    | zero => simp at h; subst h; exact hv
    | succ i => have := h2 i u (by simpa using h); rwa [show o + (i + 1) = o + 1 + i by omega]
/-- From the values back to the cells. -/
theorem Vals.cells {w : World} : ∀ {l : List D} {vs : List Value} {b o : Nat}, Vals w l vs → (∀ i v, vs[i]? = some v → w.cell? ⟨b, o + i, none⟩ = some v) → Cells w l b o
  | [], _, _, _, _, _ => by simp only [Cells]
  | d :: ds, vs, b, o, ⟨v, r, e, hd, hr⟩, h => by
    subst e
    simp only [Cells]
    refine ⟨⟨v, by simpa using h 0 v (by simp), hd⟩, Vals.cells hr fun i u hu => ?_⟩
    have := h (i + 1) u (by simpa using hu)
    rwa [show o + 1 + i = o + (i + 1) by omega]

/-- A slice out of its elements' cells. -/
theorem Elems.mk {w : World} {sz : Nat} {b : Nat} : ∀ {l : List (List D)} {o : Nat}, (∀ (k : Nat) (hk : k < l.length), Cells w l[k] b (o + k * sz)) → Elems w sz l (some ⟨b, o, none⟩)
  | [], _, _ => by simp only [Elems]
  | e :: es, o, h => by
    simp only [Elems]
    refine ⟨b, o, rfl, by have := h 0 (by simp); simp only [List.getElem_cons_zero, Nat.zero_mul, Nat.add_zero] at this; exact this, Elems.mk fun k hk => ?_⟩
    have := h (k + 1) (by simpa using hk)
    rw [show o + (k + 1) * sz = o + sz + k * sz by rw [Nat.add_mul]; omega] at this
    simpa using this

end Go.Proofs.Ytiecbgclkdlpkaa
