/-
  A row of types and a row of bools of the call's own, turned element by element; what they say of names. No condition.
-/
import Derived.Test.YtiecbgclkdlpkaaKBack
import Derived.Deep.OwnRows
namespace Go.Proofs.Ytiecbgclkdlpkaa
open Go.RowKit
set_option linter.unusedVariables false

def two (b1 b2 : Nat) : Nat → Bool := fun k => decide (k = b1) || decide (k = b2)
theorem two_l (b1 b2 : Nat) : two b1 b2 b1 = true := by simp [two]
theorem two_r (b1 b2 : Nat) : two b1 b2 b2 = true := by simp [two]
theorem two_iff {b1 b2 k : Nat} : two b1 b2 k = true ↔ k = b1 ∨ k = b2 := by simp [two]
def upd {α : Type} (f : Nat → α) (k : Nat) (x : α) : Nat → α := fun i => if i = k then x else f i
theorem upd_at {α : Type} (f : Nat → α) (k : Nat) (x : α) : upd f k x k = x := by simp [upd]
theorem upd_ne {α : Type} (f : Nat → α) {k i : Nat} (x : α) (h : i ≠ k) : upd f k x i = f i := by simp [upd, h]

/-- Two rows of n: types, and whether they are known. -/
structure TSt (T B : TypeId) (n b1 b2 : Nat) (w : World) (hs : Nat → Bool) (st : Nat → Ty) : Prop where
  ne : b1 ≠ b2
  types : ∃ f, w.rowIs b1 T (n * 5) f ∧ ∀ i, i < n → ∃ vs, Vals (HidW (two b1 b2) w) (st i).d vs ∧ ∀ j, j < 5 → vs[j]? = some (f (i * 5 + j))
  has : w.rowIs b2 B n (fun i => .bool (hs i))
section
variable {T B : TypeId} {n b1 b2 : Nat} {w w' : World} {hs : Nat → Bool} {st : Nat → Ty}

theorem TSt.lt (h : TSt T B n b1 b2 w hs st) : b1 < w.heap.size ∧ b2 < w.heap.size := ⟨by obtain ⟨f, h1, _⟩ := h.types; exact h1.lt, h.has.lt⟩
theorem TSt.keep (h : TSt T B n b1 b2 w hs st) (hc : Chg (fun _ => False) w w') : TSt T B n b1 b2 w' hs st := by
  obtain ⟨f, h1, h2⟩ := h.types
  refine ⟨h.ne, ⟨f, h1.of_block (hc.block _ h1.lt id), fun i hi => ?_⟩, h.has.of_block (hc.block _ h.has.lt id)⟩
  obtain ⟨vs, h3, h4⟩ := h2 i hi
  exact ⟨vs, h3.sub (hid_chg hc (fun k q => q.elim)), h4⟩
theorem TSt.setHas (h : TSt T B n b1 b2 w hs st) (k : Nat) (b : Bool) : TSt T B n b1 b2 (w.setCell ⟨b2, k, none⟩ (.bool b)) (upd hs k b) st := by
  obtain ⟨f, h1, h2⟩ := h.types
  have hc : Chg (fun j => j = b2) w (w.setCell ⟨b2, k, none⟩ (.bool b)) := (Chg.refl (fun j => j = b2) w).setCell (p := ⟨b2, k, none⟩) (fun _ => rfl) _
  refine ⟨h.ne, ⟨f, h1.setOther h.ne _, fun i hi => ?_⟩, (h.has.set k (.bool b)).congr fun i _ => by by_cases e : i = k <;> simp [upd, e]⟩
  obtain ⟨vs, h3, h4⟩ := h2 i hi
  exact ⟨vs, h3.sub (hid_chg hc (fun j q => by rw [q]; exact two_r _ _)), h4⟩
def set5 (w : World) (b k : Nat) (v0 v1 v2 v3 v4 : Value) : World :=
  ((((w.setCell ⟨b, k, none⟩ v0).setCell ⟨b, k + 1, none⟩ v1).setCell ⟨b, k + 2, none⟩ v2).setCell ⟨b, k + 3, none⟩ v3).setCell ⟨b, k + 4, none⟩ v4
theorem set5_chg (w : World) (b k : Nat) (v0 v1 v2 v3 v4 : Value) : Chg (fun j => j = b) w (set5 w b k v0 v1 v2 v3 v4) :=
  (((((Chg.refl (fun j => j = b) w).setCell (p := ⟨b, k, none⟩) (fun _ => rfl) v0).setCell (p := ⟨b, k + 1, none⟩) (fun _ => rfl) v1).setCell (p := ⟨b, k + 2, none⟩) (fun _ => rfl) v2).setCell (p := ⟨b, k + 3, none⟩) (fun _ => rfl) v3).setCell (p := ⟨b, k + 4, none⟩) (fun _ => rfl) v4
theorem TSt.setTy (h : TSt T B n b1 b2 w hs st) {k : Nat} (hk : k < n) {t : Ty} {v0 v1 v2 v3 v4 : Value} (hv : Vals (HidW (two b1 b2) w) t.d [v0, v1, v2, v3, v4]) : TSt T B n b1 b2 (set5 w b1 (k * 5) v0 v1 v2 v3 v4) hs (upd st k t) := by
  obtain ⟨f, h1, h2⟩ := h.types
  have hc := set5_chg w b1 (k * 5) v0 v1 v2 v3 v4
  have hsub := hid_chg hc (S := two b1 b2) (fun j q => by rw [q]; exact two_l _ _)
  refine ⟨h.ne, ⟨_, ((((h1.set (k * 5) v0).set (k * 5 + 1) v1).set (k * 5 + 2) v2).set (k * 5 + 3) v3).set (k * 5 + 4) v4, fun i hi => ?_⟩, h.has.of_block (hc.block _ h.has.lt (fun q => h.ne q.symm))⟩
  by_cases e : i = k
  · subst e
    rw [upd_at]
    refine ⟨_, hv.sub hsub, fun j hj => ?_⟩
    rcases (by omega : j = 0 ∨ j = 1 ∨ j = 2 ∨ j = 3 ∨ j = 4) with rfl | rfl | rfl | rfl | rfl <;> simp
  · rw [upd_ne _ _ e]
    obtain ⟨vs, h3, h4⟩ := h2 i hi
    refine ⟨vs, h3.sub hsub, fun j hj => ?_⟩
    rw [h4 j hj]
    have n0 : i * 5 + j ≠ k * 5 := by omega
    have n1 : i * 5 + j ≠ k * 5 + 1 := by omega
    have n2 : i * 5 + j ≠ k * 5 + 2 := by omega
    have n3 : i * 5 + j ≠ k * 5 + 3 := by omega
    have n4 : i * 5 + j ≠ k * 5 + 4 := by omega
    simp only [n0, n1, n2, n3, n4, if_false]
/-- Element k of the types: its cells. -/
theorem TSt.at (h : TSt T B n b1 b2 w hs st) {k : Nat} (hk : k < n) : ∃ E3 c3 E4 c4, Vals (HidW (two b1 b2) w) (st k).d [.int .i64 (st k).kind, .string (st k).pkg, .string (st k).name, .slice E3 (st k).args.length c3, .slice E4 (st k).res.length c4] ∧
    (w.cell? ⟨b1, k * 5, none⟩ = some (.int .i64 (st k).kind) ∧ w.cell? ⟨b1, k * 5 + 1, none⟩ = some (.string (st k).pkg) ∧ w.cell? ⟨b1, k * 5 + 2, none⟩ = some (.string (st k).name) ∧ w.cell? ⟨b1, k * 5 + 3, none⟩ = some (.slice E3 (st k).args.length c3) ∧ w.cell? ⟨b1, k * 5 + 4, none⟩ = some (.slice E4 (st k).res.length c4)) ∧
    ∀ j, j < 5 → w.frozen? ⟨b1, k * 5 + j, none⟩ = false := by
  obtain ⟨f, h1, h2⟩ := h.types
  obtain ⟨vs, h3, h4⟩ := h2 k hk
  obtain ⟨E3, c3, E4, c4, rfl, _⟩ := Ty.opn h3
  have hcell : ∀ j v, ([.int .i64 (st k).kind, .string (st k).pkg, .string (st k).name, .slice E3 (st k).args.length c3, .slice E4 (st k).res.length c4] : List Value)[j]? = some v → j < 5 → w.cell? ⟨b1, k * 5 + j, none⟩ = some v := fun j v hv hj => by
    rw [h1.cell (by omega), ← h4 j hj, hv]
  exact ⟨E3, c3, E4, c4, h3, ⟨hcell 0 _ rfl (by omega), hcell 1 _ rfl (by omega), hcell 2 _ rfl (by omega), hcell 3 _ rfl (by omega), hcell 4 _ rfl (by omega)⟩, fun j _ => h1.frozen _⟩
theorem TSt.hasAt (h : TSt T B n b1 b2 w hs st) {k : Nat} (hk : k < n) : w.cell? ⟨b2, k, none⟩ = some (.bool (hs k)) ∧ w.frozen? ⟨b2, k, none⟩ = false := ⟨h.has.cell hk, h.has.frozen k⟩
end

/-- What the rows say of names. -/
def NSt (names : List ByteArray) (hs : Nat → Bool) (st : Nat → Ty) (m : TyM) : Prop := ∀ s, placeN names s < names.length → m s = if hs (placeN names s) = true then some (st (placeN names s)) else none
theorem NSt.next {names : List ByteArray} {hs : Nat → Bool} {st : Nat → Ty} {m : TyM} (h : NSt names hs st m) {s : ByteArray} (hs' : placeN names s < names.length) (t : Ty) : NSt names (upd hs (placeN names s) true) (upd st (placeN names s) t) (setT m s t) := by
  intro x hx
  unfold setT
  by_cases e : x = s
  · subst e
    rw [if_pos (by simp), upd_at, upd_at, if_pos rfl]
  · have hne : placeN names x ≠ placeN names s := fun q => e (by have h1 := placeN_lt hx; have h2 := placeN_lt hs'; rw [← h1, ← h2]; congr 1)
    rw [if_neg (by rw [ba_iff]; exact e), upd_ne _ _ hne, upd_ne _ _ hne]
    exact h x hx
end Go.Proofs.Ytiecbgclkdlpkaa
