/-
  The plain law behind mortiseref7.Infer: what the rows say of names, name by name. No condition.
-/
import Derived.Test.YtiecbgclkdlpkaaKWlk
import Derived.Test.YtiecbgclkdlpkaaKInfer
namespace Go.Proofs.Ytiecbgclkdlpkaa
open Go.RowKit
set_option linter.unusedVariables false

def badT (t : Ty) : Bool := decide (t.kind = 4) || decide (t.kind = 0)
theorem inferGo_all {m : TyM} : ∀ (l : List ByteArray) (f : Nat → Ty), (∀ j (h : j < l.length), m l[j] = some (f j) ∧ badT (f j) = false) → inferGo m l = some ((List.range l.length).map f)
  | [], _, _ => rfl
  | n :: ns, f, h => by
    have h0 := h 0 (by simp)
    simp only [List.getElem_cons_zero] at h0
    simp only [inferGo, h0.1]
    rw [if_neg (by have := h0.2; unfold badT at this; rw [this]; simp), inferGo_all ns (fun j => f (j + 1)) (fun j hj => by have := h (j + 1) (by simpa using hj); simpa using this)]
    simp [List.range_succ_eq_map, List.map_map, Function.comp_def]
theorem inferGo_none {m : TyM} : ∀ (l : List ByteArray) (j : Nat) (h : j < l.length), (m l[j] = none ∨ ∃ t, m l[j] = some t ∧ badT t = true) → inferGo m l = none
  | [], j, h, _ => absurd h (by simp)
  | n :: ns, 0, _, h => by
    simp only [List.getElem_cons_zero] at h
    simp only [inferGo]
    rcases h with h | ⟨t, h, hb⟩
    · simp [h]
    · rw [h]; simp only; rw [if_pos (by unfold badT at hb; exact hb)]
  | n :: ns, j + 1, hj, h => by
    simp only [List.getElem_cons_succ] at h
    have := inferGo_none ns j (by simpa using hj) h
    simp only [inferGo, this]
    cases m n with
    | none => rfl
    | some t => simp
theorem placeN_self {l : List ByteArray} {i : Nat} (h : i < l.length) : placeN l l[i] < l.length ∧ placeN l l[i] ≤ i := by
  have : placeN l l[i] ≤ i := by
    unfold placeN
    rw [Nat.le_iff_lt_or_eq, ← Nat.not_le]
    have hle := List.findIdx_le_length (xs := l) (p := fun x => x.toList == l[i].toList)
    by_cases hc : l.findIdx (fun x => x.toList == l[i].toList) ≤ i
    · rcases Nat.lt_or_eq_of_le hc with h1 | h1
      · exact .inl (by omega)
      · exact .inr h1
    · exact absurd (List.not_of_lt_findIdx (Nat.lt_of_not_le hc)) (by simp)
  exact ⟨by omega, this⟩
/-- A copy of an element to where its name stands again changes nothing that is asked. -/
theorem NSt.again {names : List ByteArray} {hs : Nat → Bool} {st : Nat → Ty} {m : TyM} (h : NSt names hs st m) {i : Nat} (hi : i < names.length) : NSt names hs (upd st i (st (placeN names names[i]))) m := by
  intro s hs'
  rw [h s hs']
  by_cases e : placeN names s = i
  · have h1 := placeN_lt hs'
    have : names[i] = s := by rw [← h1]; congr 1; exact e.symm
    rw [this, e, upd_at]
  · rw [upd_ne _ _ e]
theorem TSt.sl {T B : TypeId} {n b1 b2 : Nat} {w : World} {hs : Nat → Bool} {st : Nat → Ty} (h : TSt T B n b1 b2 w hs st) (hr : n ≤ Reach) : SL w 5 (Ty.ds ((List.range n).map st)) n (some ⟨b1, 0, none⟩) n := by
  have hlen : (Ty.ds ((List.range n).map st)).length = n := by rw [Ty.ds_length]; simp
  refine ⟨hlen, Nat.le_refl _, hr, Elems.mk fun k hk => ?_⟩
  rw [hlen] at hk
  rw [Ty.ds_get _ k (by simpa using hk)]
  obtain ⟨E3, c3, E4, c4, hv, ⟨x0, x1, x2, x3, x4⟩, _⟩ := h.at hk
  have hg : ((List.range n).map st)[k]'(by simpa using hk) = st k := by simp
  rw [hg, Nat.zero_add]
  refine Vals.cells (hv.sub (hid_sub _ _)) fun i v hi => ?_
  have hi5 : i < 5 := by have := (List.getElem?_eq_some_iff.1 hi).1; simpa using this
  rcases (by omega : i = 0 ∨ i = 1 ∨ i = 2 ∨ i = 3 ∨ i = 4) with rfl | rfl | rfl | rfl | rfl <;> simp at hi <;> subst hi <;> assumption
def tyZ : Ty := .mk 0 e0 e0 [] []
def zerC : Array Value := #[.int .i64 0, .string ⟨#[]⟩, .string ⟨#[]⟩, .slice none 0 0, .slice none 0 0]
/-- The rows as they are made. -/
theorem TSt.made (w : World) (T B : TypeId) (n : Nat) : TSt T B n w.heap.size (w.heap.size + 1) ((w.alloc (.cells (madeCells zerC (n * 5)) T)).alloc (.cells (madeCells #[.bool false] n) B)) (fun _ => false) (fun _ => tyZ) := by
  refine ⟨by omega, ⟨fun i => zerC[i % 5]!, ?_, fun i hi => ?_⟩, ?_⟩
  · have := World.rowIs_alloc w (madeCells zerC (n * 5)) T (fun i => zerC[i % 5]!) (fun i hi => by rw [size_madeCells] at hi; simp only [madeCells, Array.getElem?_map, Array.getElem?_range, hi, if_true, Option.map_some]; rfl)
    rw [size_madeCells] at this
    exact this.alloc _
  · refine ⟨_, flat_ty _ 0 e0 ⟨by decide, by decide⟩ (Nat.zero_le _), fun j hj => ?_⟩
    have : (i * 5 + j) % 5 = j := by omega
    show _ = some (zerC[(i * 5 + j) % 5]!)
    rw [this]
    rcases (by omega : j = 0 ∨ j = 1 ∨ j = 2 ∨ j = 3 ∨ j = 4) with rfl | rfl | rfl | rfl | rfl <;> rfl
  · have := World.rowIs_made (w.alloc (.cells (madeCells zerC (n * 5)) T)) (.bool false) n B
    rw [World.size_alloc] at this
    exact this
end Go.Proofs.Ytiecbgclkdlpkaa
