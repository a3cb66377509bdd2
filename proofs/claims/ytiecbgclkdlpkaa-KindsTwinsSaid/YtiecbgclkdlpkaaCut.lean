/-
  A statement whose order Go leaves open, of which some operations change the world and each other one waits for each of these or is waited for by it: it is walked in the order of its text. No condition beyond these, which the kernel reckons.
-/
import Derived.StillTail
import Derived.StillTactics
namespace Go.Proofs.Ytiecbgclkdlpkaa
section
variable {P : Program} {ops : Array Oper} {md : Region.Mode} {Q : Exit → Act → World → Prop}

/-- What has come up is closed under 'waits for'. -/
structure Cl (md : Region.Mode) (ops : Array Oper) (listed : Array Bool) : Prop where
  size : listed.size = ops.size
  closed : ∀ j oj, ops[j]? = some oj → listed.getD j false = true → ∀ e ∈ oj.after, Region.binds md e = true → listed.getD e.on false = true

theorem Cl.start (md : Region.Mode) (ops : Array Oper) : Cl md ops (Array.replicate ops.size false) :=
  ⟨by simp, fun j _ _ hl => by rw [getD_replicate_false] at hl; cases hl⟩
theorem Cl.set {listed : Array Bool} (h : Cl md ops listed) {i : Nat} (hi : i ∈ Region.ready md ops listed) : Cl md ops (listed.setIfInBounds i true) := by
  obtain ⟨_, oi, hoi, hall⟩ := mem_ready.1 hi
  refine ⟨by simp [h.size], fun j oj hj hl e he hb => ?_⟩
  by_cases hij : i = j
  · subst hij
    have : oj = oi := Option.some.inj (hj.symm.trans hoi)
    subst this
    exact getD_set_true (hall e he hb)
  · rw [getD_set_ne false hij] at hl
    exact getD_set_true (h.closed j oj hj hl e he hb)

/-- All that an operation waits for, through others: as bits. -/
def maskOf (md : Region.Mode) (acc : Array Nat) (es : List Edge) : Nat :=
  es.foldl (fun s e => if Region.binds md e then s ||| (2 ^ e.on ||| acc.getD e.on 0) else s) 0
def masks (md : Region.Mode) : List Oper → Array Nat → Array Nat
  | [], acc => acc
  | o :: r, acc => masks md r (acc.push (maskOf md acc o.after.toList))

theorem maskOf_spec (acc : Array Nat) (n : Nat) : ∀ (es : List Edge) (s : Nat),
    (es.foldl (fun s e => if Region.binds md e then s ||| (2 ^ e.on ||| acc.getD e.on 0) else s) s).testBit n = true →
    s.testBit n = true ∨ ∃ e ∈ es, Region.binds md e = true ∧ (e.on = n ∨ (acc.getD e.on 0).testBit n = true)
  | [], s, h => .inl h
  | e :: es, s, h => by
    rcases maskOf_spec acc n es _ h with h | ⟨e', he', hb, h⟩
    · dsimp only at h
      split at h
      · rename_i hb
        rw [Nat.testBit_or, Bool.or_eq_true, Nat.testBit_or, Bool.or_eq_true] at h
        rcases h with h | h | h
        · exact .inl h
        · refine .inr ⟨e, List.mem_cons_self, hb, .inl ?_⟩
          rw [Nat.testBit_two_pow] at h
          simpa using h
        · exact .inr ⟨e, List.mem_cons_self, hb, .inr h⟩
      · exact .inl h
    · exact .inr ⟨e', List.mem_cons_of_mem _ he', hb, h⟩

/-- What the bits say: where all that t waits for has come up, n has. -/
def Says (md : Region.Mode) (ops : Array Oper) (acc : Array Nat) : Prop :=
  ∀ t n, (acc.getD t 0).testBit n = true → ∀ ot, ops[t]? = some ot → ∀ listed, Cl md ops listed → (∀ e ∈ ot.after, Region.binds md e = true → listed.getD e.on false = true) → listed.getD n false = true

theorem listed_lt {listed : Array Bool} {j : Nat} (h : listed.getD j false = true) : j < listed.size := by
  rcases Nat.lt_or_ge j listed.size with h' | h'
  · exact h'
  · simp [Array.getElem?_eq_none h'] at h

theorem masks_says : ∀ (l : List Oper) (acc : Array Nat), (∀ j, l[j]? = ops[acc.size + j]?) → Says md ops acc → Says md ops (masks md l acc)
  | [], acc, _, h => h
  | o :: r, acc, hl, h => by
    refine masks_says r _ (fun j => ?_) ?_
    · have := hl (j + 1)
      simp only [List.getElem?_cons_succ] at this
      rw [this, Array.size_push]
      congr 1
      omega
    · intro t n hb ot hot listed hc hall
      by_cases ht : t = acc.size
      · subst ht
        have h0 := hl 0
        simp only [List.getElem?_cons_zero, Nat.add_zero] at h0
        obtain rfl : o = ot := Option.some.inj (h0.trans hot)
        have hb' : (maskOf md acc o.after.toList).testBit n = true := by
          simpa [Array.getD_eq_getD_getElem?] using hb
        rcases maskOf_spec acc n _ _ hb' with h1 | ⟨e, he, hbe, h1⟩
        · simp at h1
        · have hl1 := hall e (by simpa using he) hbe
          rcases h1 with h1 | h1
          · rw [← h1]; exact hl1
          · have hlt : e.on < ops.size := by rw [← hc.size]; exact listed_lt hl1
            exact h e.on n h1 ops[e.on] (Array.getElem?_eq_getElem hlt) listed hc (hc.closed e.on ops[e.on] (Array.getElem?_eq_getElem hlt) hl1)
      · refine h t n ?_ ot hot listed hc hall
        rw [Array.getD_eq_getD_getElem?] at hb ⊢
        rw [Array.getElem?_push, if_neg ht] at hb
        exact hb

theorem says_of {acc : Array Nat} (h : acc = masks md ops.toList #[]) : Says md ops acc := by
  rw [h]
  refine masks_says ops.toList #[] (fun j => by simp) (fun t n hb => ?_)
  simp at hb

/-- Nothing from n on comes up while one of those from k to n is missing. -/
def waitsB (ops : Array Oper) (acc : Array Nat) (k n : Nat) : Bool :=
  (List.range ops.size).all fun t => (decide (t < k) || decide (n ≤ t) || (acc.getD n 0).testBit t) && (decide (t ≤ n) || (acc.getD t 0).testBit n)

theorem waits_spec {acc : Array Nat} {k n : Nat} (hs : Says md ops acc) (h : waitsB ops acc k n = true) (hn : n < ops.size) {i : Nat} (hk : k ≤ i) (hi : i < n) {listed : Array Bool} (hc : Cl md ops listed)
    (hun : listed.getD i true = false) : ∀ t, n ≤ t → t ∉ Region.ready md ops listed := by
  intro t ht hr
  obtain ⟨_, ot, hot, hall⟩ := mem_ready.1 hr
  have hlt : t < ops.size := (Array.getElem?_eq_some_iff.1 hot).1
  have hi0 : (acc.getD n 0).testBit i = true := by
    have h1 := List.all_eq_true.1 h i (List.mem_range.2 (by omega))
    simp only [Bool.and_eq_true, Bool.or_eq_true, decide_eq_true_eq] at h1
    rcases h1.1 with (h2 | h2) | h2
    · omega
    · omega
    · exact h2
  have hno : ∀ b, listed.getD i false = true → b := fun b hb => by
    rw [getD_both hun] at hb; cases hb
  by_cases htn : t = n
  · subst htn
    exact hno _ (hs t i hi0 ot hot listed hc hall)
  · have h1 := List.all_eq_true.1 h t (List.mem_range.2 hlt)
    simp only [Bool.and_eq_true, Bool.or_eq_true, decide_eq_true_eq] at h1
    rcases h1.2 with h2 | h2
    · omega
    · have hln := hs t n h2 ot hot listed hc hall
      exact hno _ (hs n i hi0 ops[n] (Array.getElem?_eq_getElem hn) listed hc (hc.closed n ops[n] (Array.getElem?_eq_getElem hn) hln))

/-- One that is ready and free, and changes nothing, may be taken first. -/
theorem head_first {w : World} {n i : Nat} {oi : Oper} {v : Value} {L : Array Bool → Act → Prop} (hi : ops[i]? = some oi) (hsel : ∀ (j : Nat) (o : Oper) cs b, ops[j]? = some o → o.op ≠ .select cs b)
    (hwait : ∀ listed, Cl md ops listed → listed.getD i true = false → ∀ t, n ≤ t → t ∉ Region.ready md ops listed)
    (hdone : ∀ listed a, L listed a → ∀ j ∈ Region.ready md ops listed, n ≤ j) :
    ∀ (f : Nat) (listed : Array Bool) (a : Act), Cl md ops listed →
      (∀ j oj, ops[j]? = some oj → j ≠ i → listed.getD j true = false → (∀ e ∈ oj.after, Region.binds md e = true → e.on ≠ i) → oi.apart ops oj = true) →
      i ∈ Region.ready md ops listed → YieldsAt P ops w oi v a →
      wpAnyL P md ops w n L f (listed.setIfInBounds i true) (a.put oi.dst v) → wpAnyL P md ops w n L (f + 1) listed a := by
  intro f
  induction f with
  | zero =>
    intro listed a hc _ hr hy H
    have hun := (mem_ready.1 hr).1
    refine ⟨fun h => (by rw [h] at hr; cases hr), fun j hj => ?_⟩
    have hjn : j < n := by
      rcases Nat.lt_or_ge j n with h | h
      · exact h
      · exact absurd hj (hwait listed hc hun j h)
    refine ⟨hjn, ?_⟩
    by_cases hji : j = i
    · subst hji; exact hy.stOp hi H
    · have := hdone _ _ H j (ready_mono hj hji)
      omega
  | succ f ih =>
    intro listed a hc hfree hr hy H
    have hun := (mem_ready.1 hr).1
    refine ⟨fun h => (by rw [h] at hr; cases hr), fun j hj => ?_⟩
    have hjn : j < n := by
      rcases Nat.lt_or_ge j n with h | h
      · exact h
      · exact absurd hj (hwait listed hc hun j h)
    refine ⟨hjn, ?_⟩
    by_cases hji : j = i
    · subst hji; exact hy.stOp hi H
    · have h1 := (H.2 j (ready_mono hj hji)).2
      obtain ⟨hjun, oj, hoj, hall⟩ := mem_ready.1 hj
      have hnot : ∀ e ∈ oj.after, Region.binds md e = true → e.on ≠ i := fun e he hb heq => by
        have h1 := hall e he hb
        rw [heq, getD_both hun] at h1
        cases h1
      have h2 := stOp_put hoj (hfree j oj hoj hji hjun hnot) (fun cs b => hsel i oi cs b hi) (fun cs b => hsel j oj cs b hoj) hy h1
      have hfree' : ∀ k ok, ops[k]? = some ok → k ≠ i → (listed.setIfInBounds j true).getD k true = false →
          (∀ e ∈ ok.after, Region.binds md e = true → e.on ≠ i) → oi.apart ops ok = true := fun k ok hk hki hun hno => by
        refine hfree k ok hk hki ?_ hno
        by_cases hjk : j = k
        · subst hjk; exact hjun
        · rw [getD_set_ne true hjk] at hun; exact hun
      refine stOp_mono (fun a' h3 => ih (listed.setIfInBounds j true) a' (hc.set hj) hfree' (ready_mono hr (Ne.symm hji)) h3.1 ?_) h2
      rw [Array.setIfInBounds_comm _ _ hji]
      exact h3.2

/-- The first so many from k on have come up. -/
def upTo : Nat → Nat → Array Bool → Array Bool
  | 0, _, listed => listed
  | f + 1, k, listed => upTo f (k + 1) (listed.setIfInBounds k true)
def headB (md : Region.Mode) (ops : Array Oper) : Nat → Nat → Array Bool → Bool
  | 0, k, listed => decide (Region.ready md ops listed = [k])
  | f + 1, k, listed => (Region.ready md ops listed).contains k && Region.free md ops listed k && headB md ops f (k + 1) (listed.setIfInBounds k true)

theorem headB_ready : ∀ (f k : Nat) (listed : Array Bool), headB md ops f k listed = true → Region.ready md ops (upTo f k listed) = [k + f]
  | 0, k, listed, h => by simpa [headB, upTo] using h
  | f + 1, k, listed, h => by
    simp only [headB, Bool.and_eq_true] at h
    rw [upTo, headB_ready f (k + 1) _ h.2]
    congr 1
    omega
theorem headB_cl : ∀ (f k : Nat) (listed : Array Bool), headB md ops f k listed = true → Cl md ops listed → Cl md ops (upTo f k listed)
  | 0, k, listed, _, hc => hc
  | f + 1, k, listed, h, hc => by
    simp only [headB, Bool.and_eq_true] at h
    exact headB_cl f (k + 1) _ h.2 (hc.set (by simpa using h.1.1))

theorem head_lex {w : World} {n s : Nat} {Lq : Act → Prop} (hsel : Region.noSelect ops = true) (hwait : ∀ i, s ≤ i → i < n → ∀ listed, Cl md ops listed → listed.getD i true = false → ∀ t, n ≤ t → t ∉ Region.ready md ops listed) :
    ∀ (l : List Oper) (k : Nat) (listed : Array Bool) (a : Act), s ≤ k → (∀ j, j < l.length → l[j]? = ops[k + j]?) → k + l.length = n → Cl md ops listed →
    headB md ops l.length k listed = true → wpStill P ops w Lq l a →
    wpAnyL P md ops w n (fun listed' a' => listed' = upTo l.length k listed ∧ Lq a') l.length listed a
  | [], k, listed, a, _, hl, hk, hc, hB, h => ⟨rfl, h⟩
  | o :: l, k, listed, a, hs, hl, hk, hc, hB, h => by
    have h0 : ops[k]? = some o := by simpa using (hl 0 (by simp)).symm
    have hB0 := hB
    simp only [List.length_cons, headB, Bool.and_eq_true] at hB
    obtain ⟨⟨hr, hf⟩, hB'⟩ := hB
    have hkn : k < n := by simp only [List.length_cons] at hk; omega
    have hr' : k ∈ Region.ready md ops listed := by simpa using hr
    have hst : stOp P ops w k (wpStill P ops w Lq l) a := by unfold stOp; simp only [h0]; exact h
    obtain ⟨v, hy, hK⟩ := yieldsAt_of_stOp h0 hst
    exact head_first h0 (Region.noSelect_spec hsel) (hwait k hs hkn) (fun listed' a' hL j hj => by
        rw [hL.1, headB_ready _ _ _ hB0] at hj
        have : j = k + (o :: l).length := by simpa using hj
        omega) l.length listed a hc (Region.free_spec h0 hf) hr' hy
      (head_lex hsel hwait l (k + 1) _ _ (by omega) (fun j hj => by have := hl (j + 1) (by simp; omega); simpa [Nat.add_assoc, Nat.add_comm 1 j] using this) (by simp only [List.length_cons] at hk; omega) (hc.set hr') hB' hK)

/-- In the order of the text: those that change nothing up to the next loud one, it, and on. -/
def wpCut (P : Program) (ops : Array Oper) (Q : Exit → Act → World → Prop) : List Nat → List Oper → Act → World → Prop
  | [], l, a, w => wpStill P ops w (fun a' => Q .normal a' w) l a
  | n :: ns, l, a, w => wpStill P ops w (fun a' => wpList P ops (Exit.then (wpCut P ops Q ns (l.drop (n + 1))) Q) ((l.drop n).take 1) a' w) (l.take n) a

def cutB (md : Region.Mode) (ops : Array Oper) (acc : Array Nat) : List Nat → Nat → Nat → Array Bool → Bool
  | [], len, k, listed => Region.lexFrom md ops len k listed
  | n :: ns, len, k, listed => decide (n < len) && headB md ops n k listed && waitsB ops acc k (k + n) && cutB md ops acc ns (len - n - 1) (k + n + 1) ((upTo n k listed).setIfInBounds (k + n) true)

theorem Oper.wp_then {o : Oper} {a : Act} {w : World} {K next : Act → World → Prop} (h : o.wp P a w K (Exit.then next Q)) : o.wp P a w K Q := by
  unfold Oper.wp at *
  generalize (execOp a.eval o).run P w = r at *
  cases r with
  | ok n w' =>
    cases n <;> simp only [Oper.upon] at h ⊢ <;> first
      | exact h
      | exact h.mono (fun e w'' he => by cases e <;> exact he)
  | halt x w' => cases x <;> simp only [Oper.upon] at h ⊢ <;> exact h

theorem wpOp_of_list {i : Nat} {o : Oper} (ho : ops[i]? = some o) {next : Act → World → Prop} {K : Act → World → Prop} (hK : ∀ a w, next a w → K a w) {a : Act} {w : World}
    (h : wpList P ops (Exit.then next Q) [o] a w) : wpOp P ops Q i K a w := by
  unfold wpOp
  simp only [ho]
  unfold wpList at h
  split
  · rename_i hw
    rw [if_pos hw] at h
    rcases h with h | ⟨h1, a0, w0, h2⟩
    · exact .inl (Oper.wp_mono (fun a w hk => hK a w hk) (Oper.wp_then h))
    · exact .inr ⟨h1, a0, w0, h2⟩
  · rename_i hw
    rw [if_neg hw] at h
    exact hK _ _ h

theorem wpAny_of_cut {acc : Array Nat} (hacc : Says md ops acc) (hsel : Region.noSelect ops = true) : ∀ (ns : List Nat) (l : List Oper) (k : Nat) (listed : Array Bool) (a : Act) (w : World), (∀ j, l[j]? = ops[k + j]?) → k + l.length = ops.size →
    Cl md ops listed → cutB md ops acc ns l.length k listed = true → wpCut P ops Q ns l a w → wpAny P md ops Q l.length listed a w
  | [], l, k, listed, a, w, hl, hk, hc, hB, h =>
    wpAny_of_still (Q := fun a' => Q .normal a' w) (fun _ h => h) _ _ _ (wpAnyS_lex hsel l k listed a hl hB h)
  | n :: ns, l, k, listed, a, w, hl, hk, hc, hB, h => by
    simp only [cutB, Bool.and_eq_true, decide_eq_true_eq] at hB
    obtain ⟨⟨⟨hn, hh⟩, hw⟩, hB'⟩ := hB
    have htl : (l.take n).length = n := by simp; omega
    have ho : ops[k + n]? = some l[n] := by rw [← hl n]; exact List.getElem?_eq_getElem hn
    have hone : (l.drop n).take 1 = [l[n]] := by
      rw [List.drop_eq_getElem_cons hn]; rfl
    simp only [wpCut] at h
    rw [hone] at h
    have H := head_lex (md := md) (s := k) (n := k + n) hsel (fun i hki hin listed' hc' hun => waits_spec hacc hw (by omega) hki hin hc' hun) (l.take n) k listed a (Nat.le_refl _)
      (fun j hj => by rw [htl] at hj; rw [List.getElem?_take_of_lt hj]; exact hl j) (by rw [htl]) hc (by rw [htl]; exact hh) h
    have := wpAny_of_head (Q' := Q) (g := l.length - n) (fun listed' a' hL => by
      obtain ⟨he, hq⟩ := hL
      rw [htl] at he
      have hr := headB_ready n k listed hh
      have hcl := headB_cl n k listed hh hc
      rw [← he] at hr hcl
      obtain ⟨g, hg⟩ : ∃ g, l.length - n = g + 1 := ⟨l.length - n - 1, by omega⟩
      rw [hg]
      refine ⟨fun h0 => (by rw [hr] at h0; cases h0), fun i hi => ?_⟩
      rw [hr] at hi
      obtain rfl : i = k + n := by simpa using hi
      refine wpOp_of_list ho (fun a2 w2 h2 => ?_) hq
      have hlen : (l.drop (n + 1)).length = g := by rw [List.length_drop]; omega
      have := wpAny_of_cut hacc hsel ns (l.drop (n + 1)) (k + n + 1) (listed'.setIfInBounds (k + n) true) a2 w2 (fun j => by rw [List.getElem?_drop, hl]; congr 1; omega) (by rw [hlen]; omega)
        (hcl.set (by rw [hr]; simp)) (by rw [hlen, he, show g = l.length - n - 1 by omega]; exact hB') h2
      rwa [hlen] at this) _ _ _ H
    rw [htl, show n + (l.length - n) = l.length by omega] at this
    exact this

theorem wpStill_mono {w : World} {Q1 Q2 : Act → Prop} (hq : ∀ a, Q1 a → Q2 a) : ∀ (l : List Oper) (a : Act), wpStill P ops w Q1 l a → wpStill P ops w Q2 l a
  | [], a, h => hq _ h
  | o :: l, a, h => by
    unfold wpStill at h ⊢
    split
    · rename_i hw; rw [if_pos hw] at h; exact Oper.still_mono (fun a => wpStill_mono hq l a) h
    · rename_i hw; rw [if_neg hw] at h; exact wpStill_mono hq l _ h

/-- One stretch: the loud one behind it, what follows behind a letter. -/
theorem wpCut_cons {n : Nat} {ns : List Nat} {l : List Oper} {a : Act} {w : World}
    (h : ∀ K : Act → World → Prop, (∀ a w, wpCut P ops Q ns (l.drop (n + 1)) a w → K a w) → wpStill P ops w (fun a' => wpList P ops (Exit.then K Q) ((l.drop n).take 1) a' w) (l.take n) a) : wpCut P ops Q (n :: ns) l a w :=
  h _ fun _ _ h => h
theorem wpCut_nil {l : List Oper} {a : Act} {w : World} (h : wpStill P ops w (fun a' => Q .normal a' w) l a) : wpCut P ops Q [] l a w := h

/-- THE REGION: 'ns': the loud ones, each by its distance from the one ahead. -/
theorem wp_region_cut {id : Nat} {a : Act} {w : World} {l : List Oper} (ns : List Nat) (hm : P.follows .mixedOrders = true)
    (hB : (Region.noSelect l.toArray && cutB .any l.toArray (masks .any l #[]) ns l.length 0 (Array.replicate l.length false)) = true) (h : wpCut P l.toArray Q ns l a w.drew) : (Code.region id l.toArray true).wp P Q a w := by
  simp only [Bool.and_eq_true] at hB
  refine wp_region_any hm ?_
  have := wpAny_of_cut (md := .any) (Q := Q) (acc := masks .any l #[]) (says_of (by simp)) hB.1 ns l 0 (Array.replicate l.toArray.size false) a w.drew (fun j => by simp) (by simp) (Cl.start _ _) (by simpa using hB.2) h
  simpa using this
end
end Go.Proofs.Ytiecbgclkdlpkaa
