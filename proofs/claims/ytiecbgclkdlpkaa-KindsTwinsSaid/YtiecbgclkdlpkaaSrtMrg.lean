/-
  The plain law of a merge in place, by halves and turns. No condition.
-/
import Derived.Test.YtiecbgclkdlpkaaSrtLaw
namespace Go.Proofs.Ytiecbgclkdlpkaa
set_option linter.unusedVariables false
section
variable {key : Nat → ByteArray} {p q : Nat → Nat}

theorem less_iff {e f : Nat} (h : e < f) : lessB (key f) (key e) = true ↔ Ahead key f e := by
  constructor
  · exact Ahead.of_true
  · rintro (k | ⟨_, k⟩)
    · exact k
    · omega
theorem less_not {e f : Nat} (h : e < f) : lessB (key f) (key e) = false ↔ Ahead key e f := by
  constructor
  · exact Ahead.of_false h
  · intro k
    cases z : lessB (key f) (key e) with
    | false => rfl
    | true => exact absurd (Ahead.of_true z) k.not

/-- What a merge is handed. -/
structure Two (key : Nat → ByteArray) (p : Nat → Nat) (a m b : Nat) : Prop where
  l : Sorted key p a m
  r : Sorted key p m b
  c : Cross p a m b
theorem Two.test {a m b x y : Nat} (h : Two key p a m b) (h1 : a ≤ x) (h2 : x < m) (h3 : m ≤ y) (h4 : y < b) : (lessB (key (p y)) (key (p x)) = true ↔ Ahead key (p y) (p x)) ∧ (lessB (key (p y)) (key (p x)) = false ↔ Ahead key (p x) (p y)) := ⟨less_iff (h.c x y h1 h2 h3 h4), less_not (h.c x y h1 h2 h3 h4)⟩
theorem Sorted.le {a b x y : Nat} (h : Sorted key p a b) (h1 : a ≤ x) (h2 : x ≤ y) (h3 : y < b) : x = y ∨ Ahead key (p x) (p y) := by
  rcases Nat.lt_or_eq_of_le h2 with e | e
  · exact .inr (h x y h1 e h3)
  · exact .inl e

/-! one element on the left -/
def FindL (key : Nat → ByteArray) (p : Nat → Nat) (a b i j : Nat) : Prop := a + 1 ≤ i ∧ i ≤ j ∧ j ≤ b ∧ (∀ y, a + 1 ≤ y → y < i → Ahead key (p y) (p a)) ∧ ∀ y, j ≤ y → y < b → Ahead key (p a) (p y)
theorem FindL.yes {a b i j h : Nat} (H : Two key p a (a + 1) b) (k : FindL key p a b i j) (h1 : i ≤ h) (h2 : h < j) (t : lessB (key (p h)) (key (p a)) = true) : FindL key p a b (h + 1) j := by
  obtain ⟨k1, k2, k3, k4, k5⟩ := k
  have hh := (H.test (x := a) (y := h) (by omega) (by omega) (by omega) (by omega)).1.1 t
  refine ⟨by omega, by omega, k3, fun y y1 y2 => ?_, k5⟩
  rcases H.r.le (x := y) (y := h) y1 (by omega) (by omega) with e | e
  · rw [e]; exact hh
  · exact e.trans hh
theorem FindL.no {a b i j h : Nat} (H : Two key p a (a + 1) b) (k : FindL key p a b i j) (h1 : i ≤ h) (h2 : h < j) (t : lessB (key (p h)) (key (p a)) = false) : FindL key p a b i h := by
  obtain ⟨k1, k2, k3, k4, k5⟩ := k
  have hh := (H.test (x := a) (y := h) (by omega) (by omega) (by omega) (by omega)).2.1 t
  refine ⟨k1, h1, by omega, k4, fun y y1 y2 => ?_⟩
  rcases H.r.le (x := h) (y := y) (by omega) y1 y2 with e | e
  · rw [← e]; exact hh
  · exact hh.trans e
theorem FindL.done {a b i : Nat} (H : Two key p a (a + 1) b) (k : FindL key p a b i i) (hq : ∀ x, q x = rot p a (a + 1) i x) : Sorted key q a b := by
  obtain ⟨k1, k2, k3, k4, k5⟩ := k
  have e1 : ∀ x, a ≤ x → x < i - 1 → q x = p (x + 1) := fun x h1 h2 => by rw [hq]; unfold rot; rw [if_pos (by omega), if_pos (by omega)]; congr 1; omega
  have e2 : q (i - 1) = p a := by rw [hq]; unfold rot; rw [if_pos (by omega), if_neg (by omega)]; congr 1; omega
  have e3 : ∀ x, i ≤ x → q x = p x := fun x h1 => by rw [hq]; unfold rot; rw [if_neg (by omega)]
  intro x y h1 h2 h3
  by_cases c1 : x < i - 1
  · rw [e1 x h1 c1]
    by_cases c2 : y < i - 1
    · rw [e1 y (by omega) c2]; exact H.r _ _ (by omega) (by omega) (by omega)
    · by_cases c3 : y = i - 1
      · rw [c3, e2]; exact k4 _ (by omega) (by omega)
      · rw [e3 y (by omega)]; exact H.r _ _ (by omega) (by omega) (by omega)
  · by_cases c2 : x = i - 1
    · rw [c2, e2, e3 y (by omega)]; exact k5 _ (by omega) (by omega)
    · rw [e3 x (by omega), e3 y (by omega)]; exact H.r _ _ (by omega) (by omega) (by omega)

/-! one element on the right -/
def FindR (key : Nat → ByteArray) (p : Nat → Nat) (a m i j : Nat) : Prop := a ≤ i ∧ i ≤ j ∧ j ≤ m ∧ (∀ x, a ≤ x → x < i → Ahead key (p x) (p m)) ∧ ∀ x, j ≤ x → x < m → Ahead key (p m) (p x)
theorem FindR.yes {a m i j h : Nat} (H : Two key p a m (m + 1)) (k : FindR key p a m i j) (h1 : i ≤ h) (h2 : h < j) (t : lessB (key (p m)) (key (p h)) = false) : FindR key p a m (h + 1) j := by
  obtain ⟨k1, k2, k3, k4, k5⟩ := k
  have hh := (H.test (x := h) (y := m) (by omega) (by omega) (by omega) (by omega)).2.1 t
  refine ⟨by omega, by omega, k3, fun y y1 y2 => ?_, k5⟩
  rcases H.l.le (x := y) (y := h) y1 (by omega) (by omega) with e | e
  · rw [e]; exact hh
  · exact e.trans hh
theorem FindR.no {a m i j h : Nat} (H : Two key p a m (m + 1)) (k : FindR key p a m i j) (h1 : i ≤ h) (h2 : h < j) (t : lessB (key (p m)) (key (p h)) = true) : FindR key p a m i h := by
  obtain ⟨k1, k2, k3, k4, k5⟩ := k
  have hh := (H.test (x := h) (y := m) (by omega) (by omega) (by omega) (by omega)).1.1 t
  refine ⟨k1, h1, by omega, k4, fun y y1 y2 => ?_⟩
  rcases H.l.le (x := h) (y := y) (by omega) y1 y2 with e | e
  · rw [← e]; exact hh
  · exact hh.trans e
theorem FindR.done {a m i : Nat} (H : Two key p a m (m + 1)) (k : FindR key p a m i i) (hq : ∀ x, q x = rot p i m (m + 1) x) : Sorted key q a (m + 1) := by
  obtain ⟨k1, k2, k3, k4, k5⟩ := k
  have e1 : ∀ x, x < i → q x = p x := fun x h1 => by rw [hq]; unfold rot; rw [if_neg (by omega)]
  have e2 : q i = p m := by rw [hq]; unfold rot; rw [if_pos (by omega), if_pos (by omega)]; congr 1; omega
  have e3 : ∀ x, i < x → x < m + 1 → q x = p (x - 1) := fun x h1 h2 => by rw [hq]; unfold rot; rw [if_pos (by omega), if_neg (by omega)]; congr 1; omega
  intro x y h1 h2 h3
  by_cases c1 : x < i
  · rw [e1 x c1]
    by_cases c2 : y < i
    · rw [e1 y c2]; exact H.l _ _ (by omega) (by omega) (by omega)
    · by_cases c3 : y = i
      · rw [c3, e2]; exact k4 _ (by omega) (by omega)
      · rw [e3 y (by omega) h3]; exact H.l _ _ (by omega) (by omega) (by omega)
  · by_cases c2 : x = i
    · rw [c2, e2, e3 y (by omega) h3]; exact k5 _ (by omega) (by omega)
    · rw [e3 x (by omega) (by omega), e3 y (by omega) h3]; exact H.l _ _ (by omega) (by omega) (by omega)

/-! in the middle -/
/-- The search for the cut: n = mid + m; c and n - 1 - c face each other. -/
def FindM (key : Nat → ByteArray) (p : Nat → Nat) (n s0 r0 s r : Nat) : Prop := s0 ≤ s ∧ s ≤ r ∧ r ≤ r0 ∧ (s0 < s → Ahead key (p (s - 1)) (p (n - s))) ∧ (r < r0 → Ahead key (p (n - 1 - r)) (p r))
theorem FindM.yes {a m b n s0 r0 s r c : Nat} (H : Two key p a m b) (hs : a ≤ s0) (hr : r0 ≤ m) (hn : m ≤ n - r0) (hn2 : n - s0 ≤ b) (hn3 : r0 ≤ n) (k : FindM key p n s0 r0 s r) (h1 : s ≤ c) (h2 : c < r) (t : lessB (key (p (n - 1 - c))) (key (p c)) = false) : FindM key p n s0 r0 (c + 1) r := by
  obtain ⟨k1, k2, k3, k4, k5⟩ := k
  have hh := (H.test (x := c) (y := n - 1 - c) (by omega) (by omega) (by omega) (by omega)).2.1 t
  refine ⟨by omega, by omega, k3, fun _ => ?_, k5⟩
  rw [show c + 1 - 1 = c by omega, show n - (c + 1) = n - 1 - c by omega]; exact hh
theorem FindM.no {a m b n s0 r0 s r c : Nat} (H : Two key p a m b) (hs : a ≤ s0) (hr : r0 ≤ m) (hn : m ≤ n - r0) (hn2 : n - s0 ≤ b) (hn3 : r0 ≤ n) (k : FindM key p n s0 r0 s r) (h1 : s ≤ c) (h2 : c < r) (t : lessB (key (p (n - 1 - c))) (key (p c)) = true) : FindM key p n s0 r0 s c := by
  obtain ⟨k1, k2, k3, k4, k5⟩ := k
  have hh := (H.test (x := c) (y := n - 1 - c) (by omega) (by omega) (by omega) (by omega)).1.1 t
  exact ⟨k1, h1, by omega, k4, fun _ => hh⟩

structure Mid (key : Nat → ByteArray) (q : Nat → Nat) (a s mid e b : Nat) : Prop where
  l : Two key q a s mid
  r : Two key q mid e b
  x : ∀ x y, a ≤ x → x < mid → mid ≤ y → y < b → Ahead key (q x) (q y)
theorem mid_of {a m b mid s e : Nat} (H : Two key p a m b) (h1 : a ≤ s) (h2 : s ≤ m) (h3 : m ≤ e) (h4 : e ≤ b) (h5 : s ≤ mid) (h6 : mid ≤ e) (h7 : mid + m = s + e)
    (hL : a < s → e < b → Ahead key (p (s - 1)) (p e)) (hR : s < m → m < e → Ahead key (p (e - 1)) (p s)) (hq : ∀ x, q x = rot p s m e x) : Mid key q a s mid e b := by
  have e1 : ∀ x, x < s → q x = p x := fun x h => by rw [hq]; unfold rot; rw [if_neg (by omega)]
  have e2 : ∀ x, s ≤ x → x < mid → q x = p (x + (m - s)) := fun x h h' => by rw [hq]; unfold rot; rw [if_pos (by omega), if_pos (by omega)]
  have e3 : ∀ x, mid ≤ x → x < e → q x = p (x - (e - m)) := fun x h h' => by rw [hq]; unfold rot; rw [if_pos (by omega), if_neg (by omega)]
  have e4 : ∀ x, e ≤ x → q x = p x := fun x h => by rw [hq]; unfold rot; rw [if_neg (by omega)]
  refine ⟨⟨fun x y a1 a2 a3 => ?_, fun x y a1 a2 a3 => ?_, fun x y a1 a2 a3 a4 => ?_⟩, ⟨fun x y a1 a2 a3 => ?_, fun x y a1 a2 a3 => ?_, fun x y a1 a2 a3 a4 => ?_⟩, fun x y a1 a2 a3 a4 => ?_⟩
  · rw [e1 x (by omega), e1 y (by omega)]; exact H.l _ _ a1 a2 (by omega)
  · rw [e2 x a1 (by omega), e2 y (by omega) a3]; exact H.r _ _ (by omega) (by omega) (by omega)
  · rw [e1 x a2, e2 y a3 a4]; exact H.c _ _ a1 (by omega) (by omega) (by omega)
  · rw [e3 x a1 (by omega), e3 y (by omega) a3]; exact H.l _ _ (by omega) (by omega) (by omega)
  · rw [e4 x a1, e4 y (by omega)]; exact H.r _ _ (by omega) a2 a3
  · rw [e3 x a1 a2, e4 y a3]; exact H.c _ _ (by omega) (by omega) (by omega) a4
  · by_cases c1 : x < s
    · rw [e1 x c1]
      by_cases c2 : y < e
      · rw [e3 y a3 c2]; exact H.l _ _ a1 (by omega) (by omega)
      · rw [e4 y (by omega)]
        have hh := hL (by omega) (by omega)
        have l1 := H.l.le (x := x) (y := s - 1) a1 (by omega) (by omega)
        have l2 := H.r.le (x := e) (y := y) (by omega) (by omega) a4
        have hh : Ahead key (p x) (p e) := by
          rcases l1 with e | e
          · rw [e]; exact hh
          · exact e.trans hh
        rcases l2 with e | e
        · rw [← e]; exact hh
        · exact hh.trans e
    · rw [e2 x (by omega) a2]
      by_cases c2 : y < e
      · rw [e3 y a3 c2]
        have hh := hR (by omega) (by omega)
        have l1 := H.r.le (x := x + (m - s)) (y := e - 1) (by omega) (by omega) (by omega)
        have l2 := H.l.le (x := s) (y := y - (e - m)) (by omega) (by omega) (by omega)
        have hh : Ahead key (p (x + (m - s))) (p s) := by
          rcases l1 with e | e
          · rw [e]; exact hh
          · exact e.trans hh
        rcases l2 with e | e
        · rw [← e]; exact hh
        · exact hh.trans e
      · rw [e4 y (by omega)]; exact H.r _ _ (by omega) (by omega) a4
/-- Both halves in order: the whole is. -/
theorem Mid.done {a s mid e b : Nat} {q1 q2 : Nat → Nat} (H : Mid key q a s mid e b) (t1 : Turn a mid q q1) (o1 : Sorted key q1 a mid) (t2 : Turn mid b q1 q2) (o2 : Sorted key q2 mid b) (h : a ≤ mid) (h' : mid ≤ b) : Sorted key q2 a b := by
  refine Sorted.append (m := mid) (o1.congr fun x h1 h2 => t2.out (.inl h2)) o2 fun x y a1 a2 a3 a4 => ?_
  rw [t2.out (.inl a2)]
  obtain ⟨x', b1, b2, b3⟩ := t1.from a1 a2
  obtain ⟨y', c1, c2, c3⟩ := t2.from a3 a4
  rw [b3, c3, t1.out (.inr c1)]
  exact H.x _ _ b1 b2 c1 c2
theorem Two.turn {a m b : Nat} {q1 : Nat → Nat} {c d : Nat} (H : Two key q a m b) (ha : a ≤ m) (hb : m ≤ b) (t : Turn c d q q1) (h : d ≤ a ∨ b ≤ c) : Two key q1 a m b := by
  have e : ∀ x, a ≤ x → x < b → q1 x = q x := fun x h1 h2 => t.out (by omega)
  exact ⟨H.l.congr fun x h1 h2 => e x h1 (by omega), H.r.congr fun x h1 h2 => e x (by omega) h2, fun x y h1 h2 h3 h4 => by rw [e x h1 (by omega), e y (by omega) h4]; exact H.c x y h1 h2 h3 h4⟩
theorem Two.congr {a m b : Nat} {q1 : Nat → Nat} (H : Two key q a m b) (ha : a ≤ m) (hb : m ≤ b) (e : ∀ x, q1 x = q x) : Two key q1 a m b := H.turn ha hb (Turn.of_eq (a := b) (b := b) e) (.inr (Nat.le_refl _))

/-! insertion -/
/-- One round's inner loop: the element is at j, all behind it up to i are ahead of what it was held against. -/
def Ins (key : Nat → ByteArray) (p : Nat → Nat) (a i j : Nat) : Prop := a ≤ j ∧ j ≤ i ∧ (∀ x y, a ≤ x → x < y → y ≤ i → x ≠ j → y ≠ j → Ahead key (p x) (p y)) ∧ (∀ x, j < x → x ≤ i → Ahead key (p j) (p x)) ∧ ∀ x, a ≤ x → x < j → p x < p j
theorem Ins.start {a i : Nat} (h : a ≤ i) (hs : Sorted key p a i) (hc : ∀ x, a ≤ x → x < i → p x < p i) : Ins key p a i i :=
  ⟨h, Nat.le_refl _, fun x y h1 h2 h3 h4 h5 => hs x y h1 h2 (by omega), fun x h1 h2 => by omega, hc⟩
theorem Ins.next {a i j : Nat} (h : Ins key p a i (j + 1)) (hj : a ≤ j) (t : lessB (key (p (j + 1))) (key (p j)) = true) (hq : ∀ x, q x = swp p (j + 1) j x) : Ins key q a i j := by
  obtain ⟨h1, h2, h3, h4, h5⟩ := h
  have e1 : q (j + 1) = p j := by rw [hq]; unfold swp; rw [if_pos rfl]
  have e2 : q j = p (j + 1) := by rw [hq]; unfold swp; rw [if_neg (by omega), if_pos rfl]
  have e3 : ∀ x, x ≠ j → x ≠ j + 1 → q x = p x := fun x n1 n2 => by rw [hq]; unfold swp; rw [if_neg n2, if_neg n1]
  refine ⟨hj, by omega, fun x y a1 a2 a3 a4 a5 => ?_, fun x a1 a2 => ?_, fun x a1 a2 => ?_⟩
  · by_cases c1 : x = j + 1
    · rw [c1, e1, e3 y (by omega) (by omega)]; exact h3 _ _ hj (by omega) a3 (by omega) (by omega)
    · by_cases c2 : y = j + 1
      · rw [c2, e1, e3 x (by omega) (by omega)]; exact h3 _ _ a1 (by omega) (by omega) (by omega) (by omega)
      · rw [e3 x a4 c1, e3 y a5 c2]; exact h3 _ _ a1 a2 a3 c1 c2
  · by_cases c1 : x = j + 1
    · rw [c1, e2, e1]; exact Ahead.of_true t
    · rw [e2, e3 x (by omega) c1]; exact h4 x (by omega) a2
  · rw [e2, e3 x (by omega) (by omega)]; exact h5 x a1 (by omega)
theorem Ins.done {a i j : Nat} (h : Ins key p a i j) (t : j = a ∨ ∃ k, j = k + 1 ∧ a ≤ k ∧ lessB (key (p (k + 1))) (key (p k)) = false) : Sorted key p a (i + 1) := by
  obtain ⟨h1, h2, h3, h4, h5⟩ := h
  have hb : ∀ x, a ≤ x → x < j → Ahead key (p x) (p j) := fun x a1 a2 => by
    rcases t with e | ⟨k, rfl, k1, k2⟩
    · omega
    · have hk := Ahead.of_false (h5 k k1 (by omega)) k2
      by_cases c : x = k
      · rw [c]; exact hk
      · exact (h3 x k a1 (by omega) (by omega) (by omega) (by omega)).trans hk
  intro x y a1 a2 a3
  by_cases c1 : x = j
  · rw [c1]; exact h4 y (by omega) (by omega)
  · by_cases c2 : y = j
    · rw [c2]; exact hb x a1 (by omega)
    · exact h3 x y a1 a2 (by omega) c1 c2

/-! blocks -/
/-- A range is in order and holds its own. -/
structure Own (key : Nat → ByteArray) (p : Nat → Nat) (lo hi : Nat) : Prop where
  s : Sorted key p lo hi
  o : ∀ x, lo ≤ x → x < hi → lo ≤ p x ∧ p x < hi
theorem Own.two {a m b : Nat} (h : Own key p a m) (k : Own key p m b) : Two key p a m b := ⟨h.s, k.s, fun x y h1 h2 h3 h4 => by have := (h.o x h1 h2).2; have := (k.o y h3 h4).1; omega⟩
theorem Own.turn {a b c d : Nat} (h : Own key p a b) (t : Turn c d p q) (hd : d ≤ a ∨ b ≤ c) : Own key q a b := by
  have e : ∀ x, a ≤ x → x < b → q x = p x := fun x h1 h2 => t.out (by omega)
  exact ⟨h.s.congr e, fun x h1 h2 => by rw [e x h1 h2]; exact h.o x h1 h2⟩
theorem Own.merged {a m b : Nat} (h : Own key p a m) (k : Own key p m b) (ha : a ≤ m) (hb : m ≤ b) (t : Turn a b p q) (hs : Sorted key q a b) : Own key q a b := by
  refine ⟨hs, fun x h1 h2 => ?_⟩
  obtain ⟨y, y1, y2, e⟩ := t.from h1 h2
  rw [e]
  by_cases c : y < m
  · have := h.o y y1 c; omega
  · have := k.o y (by omega) y2; omega
theorem Own.start {a b : Nat} (h : ∀ x, a ≤ x → x < b → p x = x) (t : Turn a b p q) (hs : Sorted key q a b) : Own key q a b := by
  refine ⟨hs, fun x h1 h2 => ?_⟩
  obtain ⟨y, y1, y2, e⟩ := t.from h1 h2
  rw [e, h y y1 y2]; exact ⟨y1, y2⟩
end
end Go.Proofs.Ytiecbgclkdlpkaa
