/-
  A row of fields that changes places; the test of two fields, walked. The conditions: the row is the call's own; the fields' names are texts.
-/
import Derived.Test.YtiecbgclkdlpkaaSrtMrg
import Derived.Test.YtiecbgclkdlpkaaHeldU
import Derived.Test.YtiecbgclkdlpkaaAns
import Derived.Deep.OwnRows
import Derived.Laws.Cover1
namespace Go.Proofs.Ytiecbgclkdlpkaa
open Go.RowKit
set_option linter.unusedVariables false
set_option linter.unusedSimpArgs false
attribute [local irreducible] wpStill wpOrd wpT

/-- What the elements hold, each under the place that it had first: a name, five cells more. -/
structure Cel where
  key : Nat → ByteArray
  kind : Nat → Int
  pkg : Nat → ByteArray
  name : Nat → ByteArray
  a4 : Nat → Option Addr
  n4 : Nat → Nat
  d4 : Nat → Nat
  a5 : Nat → Option Addr
  n5 : Nat → Nat
  d5 : Nat → Nat
def Cel.at (V : Cel) (e j : Nat) : Value := match j with
  | 0 => .string (V.key e)
  | 1 => (.int .i64 (V.kind e) : Value)
  | 2 => (.string (V.pkg e) : Value)
  | 3 => (.string (V.name e) : Value)
  | 4 => (.slice (V.a4 e) (V.n4 e) (V.d4 e) : Value)
  | _ => (.slice (V.a5 e) (V.n5 e) (V.d5 e) : Value)
/-- Block g holds n elements of V, at place i the one that was at place p i. -/
structure SortR (w : World) (g N n : Nat) (V : Cel) (p : Nat → Nat) : Prop where
  room : n * 6 ≤ N
  row : ∃ f, w.rowIs g 56 N f ∧ ∀ i, i < n → ∀ j, j < 6 → f (i * 6 + j) = V.at (p i) j
def set6 (w : World) (b k : Nat) (v0 v1 v2 v3 v4 v5 : Value) : World :=
  (((((w.setCell ⟨b, k, none⟩ v0).setCell ⟨b, k + 1, none⟩ v1).setCell ⟨b, k + 2, none⟩ v2).setCell ⟨b, k + 3, none⟩ v3).setCell ⟨b, k + 4, none⟩ v4).setCell ⟨b, k + 5, none⟩ v5
section
variable {w w' : World} {g N n : Nat} {V : Cel} {p q : Nat → Nat}
theorem SortR.lt (h : SortR w g N n V p) : g < w.heap.size := by obtain ⟨f, h1, _⟩ := h.row; exact h1.lt
theorem SortR.keep (h : SortR w g N n V p) (hb : w'.heap[g]? = w.heap[g]?) : SortR w' g N n V p := by
  obtain ⟨f, h1, h2⟩ := h.row
  exact ⟨h.room, f, h1.of_block hb, h2⟩
theorem SortR.keepC (h : SortR w g N n V p) (hc : Chg (fun _ => False) w w') : SortR w' g N n V p := h.keep (hc.block _ h.lt id)
theorem SortR.drew (h : SortR w g N n V p) : SortR w.drew g N n V p := h.keep rfl
theorem SortR.congr (h : SortR w g N n V p) (e : ∀ x, q x = p x) : SortR w g N n V q := by
  obtain ⟨f, h1, h2⟩ := h.row
  exact ⟨h.room, f, h1, fun i hi j hj => by rw [e]; exact h2 i hi j hj⟩
/-- Element i: its cells. -/
theorem SortR.cell (h : SortR w g N n V p) {i : Nat} (hi : i < n) : (w.cell? ⟨g, i * 6, none⟩ = some (.string (V.key (p i))) ∧ w.cell? ⟨g, i * 6 + 1, none⟩ = some (.int .i64 (V.kind (p i))) ∧ w.cell? ⟨g, i * 6 + 2, none⟩ = some (.string (V.pkg (p i))) ∧ w.cell? ⟨g, i * 6 + 3, none⟩ = some (.string (V.name (p i))) ∧ w.cell? ⟨g, i * 6 + 4, none⟩ = some (.slice (V.a4 (p i)) (V.n4 (p i)) (V.d4 (p i))) ∧ w.cell? ⟨g, i * 6 + 5, none⟩ = some (.slice (V.a5 (p i)) (V.n5 (p i)) (V.d5 (p i)))) ∧
    ∀ j, w.frozen? ⟨g, j, none⟩ = false := by
  obtain ⟨f, h1, h2⟩ := h.row
  have hr := h.room
  have hc : ∀ j, j < 6 → w.cell? ⟨g, i * 6 + j, none⟩ = some (V.at (p i) j) := fun j hj => by rw [h1.cell (by omega), h2 i hi j hj]
  exact ⟨⟨hc 0 (by omega), hc 1 (by omega), hc 2 (by omega), hc 3 (by omega), hc 4 (by omega), hc 5 (by omega)⟩, fun j => h1.frozen j⟩
theorem set6_chg (w : World) (b k : Nat) (v0 v1 v2 v3 v4 v5 : Value) : Chg (fun j => j = b) w (set6 w b k v0 v1 v2 v3 v4 v5) :=
  ((((((Chg.refl (fun j => j = b) w).setCell (p := ⟨b, k, none⟩) (fun _ => rfl) v0).setCell (p := ⟨b, k + 1, none⟩) (fun _ => rfl) v1).setCell (p := ⟨b, k + 2, none⟩) (fun _ => rfl) v2).setCell (p := ⟨b, k + 3, none⟩) (fun _ => rfl) v3).setCell (p := ⟨b, k + 4, none⟩) (fun _ => rfl) v4).setCell (p := ⟨b, k + 5, none⟩) (fun _ => rfl) v5
/-- The element that was at e first is stored at place i. -/
theorem SortR.store (h : SortR w g N n V p) {i : Nat} (hi : i < n) (e : Nat) : SortR (set6 w g (i * 6) (.string (V.key e)) (.int .i64 (V.kind e)) (.string (V.pkg e)) (.string (V.name e)) (.slice (V.a4 e) (V.n4 e) (V.d4 e)) (.slice (V.a5 e) (V.n5 e) (V.d5 e))) g N n V (fun x => if x = i then e else p x) := by
  obtain ⟨f, h1, h2⟩ := h.row
  refine ⟨h.room, _, (((((h1.set (i * 6) _).set (i * 6 + 1) _).set (i * 6 + 2) _).set (i * 6 + 3) _).set (i * 6 + 4) _).set (i * 6 + 5) _, fun x hx j hj => ?_⟩
  by_cases c : x = i
  · subst c
    rw [if_pos rfl]
    rcases (by omega : j = 0 ∨ j = 1 ∨ j = 2 ∨ j = 3 ∨ j = 4 ∨ j = 5) with rfl | rfl | rfl | rfl | rfl | rfl <;> simp [Cel.at]
  · rw [if_neg c]
    have n0 : x * 6 + j ≠ i * 6 := by omega
    have n1 : x * 6 + j ≠ i * 6 + 1 := by omega
    have n2 : x * 6 + j ≠ i * 6 + 2 := by omega
    have n3 : x * 6 + j ≠ i * 6 + 3 := by omega
    have n4 : x * 6 + j ≠ i * 6 + 4 := by omega
    have n5 : x * 6 + j ≠ i * 6 + 5 := by omega
    simp only [n0, n1, n2, n3, n4, n5, if_false]
    exact h2 x hx j hj
/-- Two stores change two places. -/
theorem SortR.swapped {i j : Nat} (h : SortR w g N n V (fun x => if x = j then p i else if x = i then p j else p x)) : SortR w g N n V (swp p i j) := by
  by_cases e : i = j
  · subst e
    exact h.congr fun x => by unfold swp; by_cases c : x = i <;> simp [c]
  · exact h.congr fun x => by
      unfold swp
      by_cases c : x = i
      · rw [if_pos c, c, if_neg e, if_pos rfl]
      · rw [if_neg c, if_neg c]
end

def cmpFn : Value := .func (.func 60) #[] #[]
theorem bl_gtr (a b : ByteArray) : (!(Op.bytesLess a.toList b.toList || a.toList == b.toList)) = lessB b a := by
  unfold lessB
  cases h1 : Op.bytesLess a.toList b.toList with
  | true =>
    cases h2 : Op.bytesLess b.toList a.toList with
    | false => rfl
    | true => have := bl_trans _ _ _ h1 h2; rw [bl_irrefl] at this; cases this
  | false =>
    cases h2 : Op.bytesLess b.toList a.toList with
    | true =>
      have : (a.toList == b.toList) = false := by
        rw [beq_eq_false_iff_ne]; intro e; rw [e, bl_irrefl] at h2; cases h2
      rw [this]; rfl
    | false => rw [bl_total _ _ h1 h2]; simp
set_option maxRecDepth 100000 in
set_option maxHeartbeats 1600000 in
theorem compare_any (w : World) (a b : ByteArray) : Calls Try.prog 61 #[.string a, .string b] w fun e w' => (∃ c : Int, e = .returned (.int .i64 c) ∧ (c < 0 ↔ lessB a b = true)) ∧ w' = w := by
  have hna : (a.toList != a.toList) = false := by simp
  have hnb : (b.toList != b.toList) = false := by simp
  cases z : lessB a b with
  | true =>
    have z' : Op.bytesLess a.toList b.toList = true := z
    go_enter Try.func61, Try.ntmps61
    go_wp2_with (go_at_call 72; go_in)
    refine bodyPost_ret (results_tmp rfl _ _ _) rfl ⟨⟨-1, rfl, by simp⟩, rfl⟩
  | false =>
    have z' : Op.bytesLess a.toList b.toList = false := z
    cases y : lessB b a with
    | true =>
      have y'' : (a.toList == b.toList) = false := by
        have y' := bl_gtr a b
        rw [y, z'] at y'
        cases e : (a.toList == b.toList) with
        | true => first | rfl | (rw [e] at y'; cases y')
        | false => first | rfl | (rw [e] at y'; cases y')
      go_enter Try.func61, Try.ntmps61
      go_wp2_with (go_at_call 72; go_in)
      refine bodyPost_ret (results_tmp rfl _ _ _) rfl ⟨⟨1, rfl, by simp⟩, rfl⟩
    | false =>
      have y'' : (a.toList == b.toList) = true := by
        have y' := bl_gtr a b
        rw [y, z'] at y'
        cases e : (a.toList == b.toList) with
        | true => first | rfl | (rw [e] at y'; cases y')
        | false => first | rfl | (rw [e] at y'; cases y')
      go_enter Try.func61, Try.ntmps61
      go_wp2_with (go_at_call 72; go_in)
      refine bodyPost_ret (results_tmp rfl _ _ _) rfl ⟨⟨0, rfl, by simp⟩, rfl⟩
set_option maxRecDepth 100000 in
set_option maxHeartbeats 1600000 in
/-- The closure that kinds.Methods sorts by. -/
theorem less_any (w : World) (a b : ByteArray) (x1 x2 x3 x4 x5 y1 y2 y3 y4 y5 : Value) : Calls Try.prog 60 #[.agg #[.string a, x1, x2, x3, x4, x5], .agg #[.string b, y1, y2, y3, y4, y5]] w fun e w' => (∃ c : Int, e = .returned (.int .i64 c) ∧ (c < 0 ↔ lessB a b = true)) ∧ Below w.heap.size w w' := by
  have HB := Lib.hid (show Below w.heap.size w ((w.alloc (.cells #[.string a, x1, x2, x3, x4, x5] 56)).alloc (.cells #[.string b, y1, y2, y3, y4, y5] 56)) from ((Below.refl w.heap.size w).alloc (Nat.le_refl _) _).alloc (by simp) _)
  go_enter Try.func60, Try.ntmps60
  go_wp2_with fail
  refine (compare_any _ a b).mono ?_
  rintro e w' ⟨⟨c, rfl, hc⟩, rfl⟩
  go_wp2_with fail
  exact bodyPost_ret (results_tmp rfl _ _ _) rfl ⟨⟨c, rfl, hc⟩, HB.out⟩
end Go.Proofs.Ytiecbgclkdlpkaa
