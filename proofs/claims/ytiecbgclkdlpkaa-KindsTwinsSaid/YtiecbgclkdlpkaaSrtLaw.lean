/-
  The plain law of a stable sort: places that are changed, ranges that are in order, a merge of two. No condition.
-/
import Derived.WalkKit
namespace Go.Proofs.Ytiecbgclkdlpkaa
set_option linter.unusedVariables false

/-! ### 1. The order of texts -/
def lessB (a b : ByteArray) : Bool := Op.bytesLess a.toList b.toList
theorem bl_irrefl : ∀ x : List UInt8, Op.bytesLess x x = false
  | [] => rfl
  | a :: x => by rw [Op.bytesLess, bl_irrefl x]; simp
theorem bl_trans : ∀ x y z : List UInt8, Op.bytesLess x y = true → Op.bytesLess y z = true → Op.bytesLess x z = true
  | [], _, [], _, h => by
    rename_i y _
    cases y <;> simp [Op.bytesLess] at h
  | [], _, _ :: _, _, _ => rfl
  | a :: x, [], _, h, _ => by simp [Op.bytesLess] at h
  | a :: x, b :: y, [], _, h => by simp [Op.bytesLess] at h
  | a :: x, b :: y, c :: z, h, k => by
    rw [Op.bytesLess] at h k ⊢
    simp only [Bool.or_eq_true, Bool.and_eq_true, decide_eq_true_eq, beq_iff_eq] at h k ⊢
    rcases h with h | ⟨rfl, h⟩
    · rcases k with k | ⟨rfl, _⟩
      · exact .inl (UInt8.lt_trans h k)
      · exact .inl h
    · rcases k with k | ⟨rfl, k⟩
      · exact .inl k
      · exact .inr ⟨rfl, bl_trans x y z h k⟩
theorem bl_total : ∀ x y : List UInt8, Op.bytesLess x y = false → Op.bytesLess y x = false → x = y
  | [], [], _, _ => rfl
  | [], _ :: _, h, _ => by simp [Op.bytesLess] at h
  | _ :: _, [], _, h => by simp [Op.bytesLess] at h
  | a :: x, b :: y, h, k => by
    rw [Op.bytesLess] at h k
    simp only [Bool.or_eq_false_iff, Bool.and_eq_false_iff, decide_eq_false_iff_not, beq_eq_false_iff_ne] at h k
    have e : a = b := UInt8.le_antisymm (UInt8.not_lt.1 k.1) (UInt8.not_lt.1 h.1)
    subst e
    rw [bl_total x y (h.2.resolve_left (fun q => q rfl)) (k.2.resolve_left (fun q => q rfl))]
theorem lessB_irrefl (a : ByteArray) : lessB a a = false := bl_irrefl _
theorem lessB_trans {a b c : ByteArray} (h : lessB a b = true) (k : lessB b c = true) : lessB a c = true := bl_trans _ _ _ h k
theorem lessB_total {a b : ByteArray} (h : lessB a b = false) (k : lessB b a = false) : a = b := by
  have := bl_total _ _ h k
  rw [ByteArray.toList_eq, ByteArray.toList_eq] at this
  cases a; cases b
  simp only at this
  rw [Array.toList_inj.1 this]

/-! ### 2. Elements by their first places -/
section
variable (key : Nat → ByteArray)
/-- e belongs ahead of f: by the key, then by the place. -/
def Ahead (e f : Nat) : Prop := lessB (key e) (key f) = true ∨ (key e = key f ∧ e < f)
variable {key}
theorem Ahead.irrefl (e : Nat) : ¬ Ahead key e e := by
  rintro (h | ⟨_, h⟩)
  · rw [lessB_irrefl] at h; cases h
  · omega
theorem Ahead.trans {e f g : Nat} (h : Ahead key e f) (k : Ahead key f g) : Ahead key e g := by
  rcases h with h | ⟨h, h'⟩ <;> rcases k with k | ⟨k, k'⟩
  · exact .inl (lessB_trans h k)
  · exact .inl (k ▸ h)
  · exact .inl (h ▸ k)
  · exact .inr ⟨h.trans k, by omega⟩
theorem Ahead.total {e f : Nat} (h : e ≠ f) : Ahead key e f ∨ Ahead key f e := by
  cases h1 : lessB (key e) (key f) with
  | true => exact .inl (.inl h1)
  | false =>
    cases h2 : lessB (key f) (key e) with
    | true => exact .inr (.inl h2)
    | false =>
      have := lessB_total h1 h2
      rcases Nat.lt_or_gt_of_ne h with q | q
      · exact .inl (.inr ⟨this, q⟩)
      · exact .inr (.inr ⟨this.symm, q⟩)
/-- Of two of which the first one's place is lower, the test tells. -/
theorem Ahead.of_false {e f : Nat} (h : e < f) (k : lessB (key f) (key e) = false) : Ahead key e f := by
  cases h1 : lessB (key e) (key f) with
  | true => exact .inl h1
  | false => exact .inr ⟨lessB_total h1 k, h⟩
theorem Ahead.of_true {e f : Nat} (k : lessB (key f) (key e) = true) : Ahead key f e := .inl k
theorem Ahead.not {e f : Nat} (h : Ahead key e f) : ¬ Ahead key f e := fun k => Ahead.irrefl e (h.trans k)

/-- What is held from lo on, below hi, is in order. -/
def Sorted (key : Nat → ByteArray) (p : Nat → Nat) (lo hi : Nat) : Prop := ∀ x y, lo ≤ x → x < y → y < hi → Ahead key (p x) (p y)
theorem Sorted.sub {p : Nat → Nat} {lo hi lo' hi' : Nat} (h : Sorted key p lo hi) (h1 : lo ≤ lo') (h2 : hi' ≤ hi) : Sorted key p lo' hi' := fun x y a b c => h x y (by omega) b (by omega)
theorem Sorted.congr {p q : Nat → Nat} {lo hi : Nat} (h : Sorted key p lo hi) (e : ∀ x, lo ≤ x → x < hi → q x = p x) : Sorted key q lo hi := fun x y a b c => by
  rw [e x a (by omega), e y (by omega) c]; exact h x y a b c
theorem Sorted.short {p : Nat → Nat} {lo hi : Nat} (h : hi ≤ lo + 1) : Sorted key p lo hi := fun x y a b c => by omega
theorem Sorted.append {p : Nat → Nat} {lo m hi : Nat} (h1 : Sorted key p lo m) (h2 : Sorted key p m hi) (h3 : ∀ x y, lo ≤ x → x < m → m ≤ y → y < hi → Ahead key (p x) (p y)) : Sorted key p lo hi := fun x y a b c => by
  by_cases hx : y < m
  · exact h1 x y a b hx
  · by_cases hy : x < m
    · exact h3 x y a hy (by omega) c
    · exact h2 x y (by omega) b c
/-- Of what two ranges hold the first one's places are lower. -/
def Cross (p : Nat → Nat) (a m b : Nat) : Prop := ∀ x y, a ≤ x → x < m → m ≤ y → y < b → p x < p y
end

/-! ### 3. Changes of places -/
/-- q holds what p holds, but that places from a on, below b, are changed. -/
def Turn (a b : Nat) (p q : Nat → Nat) : Prop := ∃ s t : Nat → Nat, (∀ x, s (t x) = x) ∧ (∀ x, t (s x) = x) ∧ (∀ x, x < a ∨ b ≤ x → s x = x) ∧ ∀ x, q x = p (s x)
theorem Turn.refl (a b : Nat) (p : Nat → Nat) : Turn a b p p := ⟨id, id, fun _ => rfl, fun _ => rfl, fun _ _ => rfl, fun _ => rfl⟩
theorem Turn.of_eq {a b : Nat} {p q : Nat → Nat} (h : ∀ x, q x = p x) : Turn a b p q := ⟨id, id, fun _ => rfl, fun _ => rfl, fun _ _ => rfl, h⟩
theorem Turn.trans {a b : Nat} {p q r : Nat → Nat} (h : Turn a b p q) (k : Turn a b q r) : Turn a b p r := by
  obtain ⟨s, t, h1, h2, h3, h4⟩ := h
  obtain ⟨s', t', k1, k2, k3, k4⟩ := k
  exact ⟨fun x => s (s' x), fun x => t' (t x), fun x => by simp only [k1, h1], fun x => by simp only [h2, k2], fun x hx => by simp only [k3 x hx, h3 x hx], fun x => by rw [k4, h4]⟩
theorem Turn.wide {a b a' b' : Nat} {p q : Nat → Nat} (h : Turn a b p q) (h1 : a' ≤ a) (h2 : b ≤ b') : Turn a' b' p q := by
  obtain ⟨s, t, k1, k2, k3, k4⟩ := h
  exact ⟨s, t, k1, k2, fun x hx => k3 x (by omega), k4⟩
theorem Turn.out {a b : Nat} {p q : Nat → Nat} (h : Turn a b p q) {x : Nat} (hx : x < a ∨ b ≤ x) : q x = p x := by
  obtain ⟨s, t, k1, k2, k3, k4⟩ := h
  rw [k4, k3 x hx]
theorem Turn.from {a b : Nat} {p q : Nat → Nat} (h : Turn a b p q) {x : Nat} (h1 : a ≤ x) (h2 : x < b) : ∃ y, a ≤ y ∧ y < b ∧ q x = p y := by
  obtain ⟨s, t, k1, k2, k3, k4⟩ := h
  refine ⟨s x, ?_, ?_, k4 x⟩
  · rcases Nat.lt_or_ge (s x) a with hx | hx
    · have h3 := k3 (s x) (.inl hx)
      have h4 := k2 (s x); rw [h3, k2] at h4; omega
    · exact hx
  · rcases Nat.lt_or_ge (s x) b with hx | hx
    · exact hx
    · have h3 := k3 (s x) (.inr hx)
      have h4 := k2 (s x); rw [h3, k2] at h4; omega
theorem Turn.inj {a b : Nat} {p q : Nat → Nat} (h : Turn a b p q) (hp : ∀ x y, p x = p y → x = y) : ∀ x y, q x = q y → x = y := by
  obtain ⟨s, t, k1, k2, k3, k4⟩ := h
  intro x y e
  rw [k4, k4] at e
  have := hp _ _ e
  rw [← k2 x, this, k2]
/-- Two places changed. -/
def swp (p : Nat → Nat) (i j : Nat) : Nat → Nat := fun x => if x = i then p j else if x = j then p i else p x
theorem swp_turn (p : Nat → Nat) {i j a b : Nat} (h1 : a ≤ i) (h2 : i < b) (h3 : a ≤ j) (h4 : j < b) : Turn a b p (swp p i j) := by
  refine ⟨fun x => if x = i then j else if x = j then i else x, fun x => if x = i then j else if x = j then i else x, fun x => ?_, fun x => ?_, fun x hx => ?_, fun x => ?_⟩
  · by_cases e1 : x = i
    · subst e1; by_cases e2 : j = x <;> simp [e2]
    · by_cases e2 : x = j
      · subst e2; simp [e1]
      · simp [e1, e2]
  · by_cases e1 : x = i
    · subst e1; by_cases e2 : j = x <;> simp [e2]
    · by_cases e2 : x = j
      · subst e2; simp [e1]
      · simp [e1, e2]
  · simp only; rw [if_neg (by omega), if_neg (by omega)]
  · unfold swp; simp only; split
    · rfl
    · split <;> rfl
/-- k places from a on changed with k from b on. -/
def swr (p : Nat → Nat) (a b k : Nat) : Nat → Nat := fun x => if a ≤ x ∧ x < a + k then p (x + b - a) else if b ≤ x ∧ x < b + k then p (x + a - b) else p x
/-- [a, m) and [m, b) in the other order. -/
def rot (p : Nat → Nat) (a m b : Nat) : Nat → Nat := fun x => if a ≤ x ∧ x < b then (if x < a + (b - m) then p (x + (m - a)) else p (x - (b - m))) else p x
theorem swr_zero (p : Nat → Nat) (a b : Nat) : ∀ x, swr p a b 0 x = p x := fun x => by unfold swr; rw [if_neg (by omega), if_neg (by omega)]
theorem swr_next (p : Nat → Nat) (a b k : Nat) (h : a + k < b) : ∀ x, swp (swr p a b k) (a + k) (b + k) x = swr p a b (k + 1) x := fun x => by
  unfold swp swr
  repeat' split
  all_goals first | rfl | (exfalso; omega) | (congr 1; omega)
theorem rot_turn (p : Nat → Nat) {a m b : Nat} (h1 : a ≤ m) (h2 : m ≤ b) : Turn a b p (rot p a m b) := by
  refine ⟨fun x => if a ≤ x ∧ x < b then (if x < a + (b - m) then x + (m - a) else x - (b - m)) else x, fun x => if a ≤ x ∧ x < b then (if x < m then x + (b - m) else x - (m - a)) else x, fun x => ?_, fun x => ?_, fun x hx => ?_, fun x => ?_⟩
  · simp only
    repeat' split
    all_goals omega
  · simp only
    repeat' split
    all_goals omega
  · simp only; rw [if_neg (by omega)]
  · unfold rot; simp only; split
    · split <;> rfl
    · rfl
theorem rot_none (p : Nat → Nat) {a m b : Nat} (h1 : a ≤ m) (h2 : m ≤ b) (h : a = m ∨ m = b) : ∀ x, rot p a m b x = p x := fun x => by
  unfold rot
  split
  · split <;> (congr 1; omega)
  · rfl
/-- A round of rotate. -/
theorem rot_left (p : Nat → Nat) {m i j : Nat} (hi : i ≤ m) (h : j < i) : ∀ x, rot (swr p (m - i) m j) (m - (i - j)) m (m + j) x = rot p (m - i) m (m + j) x := fun x => by
  unfold rot swr
  repeat' split
  all_goals first | rfl | (exfalso; omega) | (congr 1; omega)
theorem rot_right (p : Nat → Nat) {m i j : Nat} (hi : i ≤ m) (h : i < j) : ∀ x, rot (swr p (m - i) (m + j - i) i) (m - i) m (m + (j - i)) x = rot p (m - i) m (m + j) x := fun x => by
  unfold rot swr
  repeat' split
  all_goals first | rfl | (exfalso; omega) | (congr 1; omega)
theorem rot_last (p : Nat → Nat) {m i : Nat} (hi : i ≤ m) : ∀ x, swr p (m - i) m i x = rot p (m - i) m (m + i) x := fun x => by
  unfold rot swr
  repeat' split
  all_goals first | rfl | (exfalso; omega) | (congr 1; omega)
/-- An element moved up by changes with its neighbour. -/
theorem rot_up (p : Nat → Nat) {a k : Nat} (h : a ≤ k) : ∀ x, swp (rot p a (a + 1) (k + 1)) k (k + 1) x = rot p a (a + 1) (k + 2) x := fun x => by
  unfold swp rot
  repeat' split
  all_goals first | rfl | (exfalso; omega) | (congr 1; omega)
/-- An element moved down. -/
theorem rot_down (p : Nat → Nat) {m k : Nat} (h : k < m) : ∀ x, swp (rot p (k + 1) m (m + 1)) (k + 1) k x = rot p k m (m + 1) x := fun x => by
  unfold swp rot
  repeat' split
  all_goals first | rfl | (exfalso; omega) | (congr 1; omega)
end Go.Proofs.Ytiecbgclkdlpkaa
