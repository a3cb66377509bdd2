/-
  Rows of fields of the call's own, ready to be sorted; a list in stable order. No condition.
-/
import Derived.Test.YtiecbgclkdlpkaaSrtS
import Derived.Test.YtiecbgclkdlpkaaAppR
namespace Go.Proofs.Ytiecbgclkdlpkaa
open Go.RowKit
set_option linter.unusedVariables false
set_option linter.unusedSimpArgs false

def fld0 : Fld := ⟨⟨#[]⟩, .mk 0 ⟨#[]⟩ ⟨#[]⟩ [] []⟩
def nameAt (l : List Fld) (i : Nat) : ByteArray := (l.getD i fld0).name
def pick (l : List Fld) (q : Nat → Nat) : List Fld := (List.range l.length).map fun i => l.getD (q i) fld0
/-- L is l in the order of names, those of one name as they stood. -/
def IsStable (l L : List Fld) : Prop := ∃ q, Turn 0 l.length id q ∧ Sorted (nameAt l) q 0 l.length ∧ L = pick l q

theorem Turn.lt {n : Nat} {q : Nat → Nat} (h : Turn 0 n id q) {x : Nat} (hx : x < n) : q x < n := by
  obtain ⟨y, _, h2, e⟩ := h.from (Nat.zero_le x) hx
  rw [e]; exact h2
theorem turn_perm {n : Nat} {q : Nat → Nat} (h : Turn 0 n id q) : ((List.range n).map q).Perm (List.range n) := by
  have hi := h.inj (fun x y e => e)
  refine (List.perm_ext_iff_of_nodup ?_ List.nodup_range).2 fun a => ?_
  · rw [List.nodup_iff_pairwise_ne, List.pairwise_map]
    exact List.Pairwise.imp (fun hne e => hne (hi _ _ e)) (List.nodup_iff_pairwise_ne.1 List.nodup_range)
  · rw [List.mem_map, List.mem_range]
    constructor
    · rintro ⟨x, hx, rfl⟩; exact h.lt (List.mem_range.1 hx)
    · intro ha
      obtain ⟨s, t, k1, k2, k3, k4⟩ := h
      refine ⟨t a, ?_, by rw [k4, k1]; rfl⟩
      rw [List.mem_range]
      rcases Nat.lt_or_ge (t a) n with hx | hx
      · exact hx
      · have h3 := k3 (t a) (.inr hx); rw [k1] at h3; omega
theorem sorted_pairwise {key : Nat → ByteArray} {n : Nat} {q : Nat → Nat} (h : Sorted key q 0 n) : ((List.range n).map q).Pairwise (Ahead key) := by
  rw [List.pairwise_map]
  refine List.Pairwise.imp_of_mem ?_ (List.pairwise_lt_range (n := n))
  intro a b ha hb hab
  exact h a b (Nat.zero_le _) hab (List.mem_range.1 hb)
theorem IsStable.unique {l L L' : List Fld} (h : IsStable l L) (k : IsStable l L') : L = L' := by
  obtain ⟨q, t, s, rfl⟩ := h
  obtain ⟨q', t', s', rfl⟩ := k
  have e : (List.range l.length).map q = (List.range l.length).map q' :=
    List.Perm.eq_of_pairwise (le := Ahead (nameAt l)) (fun a b _ _ h1 h2 => absurd h2 h1.not) (sorted_pairwise s) (sorted_pairwise s') ((turn_perm t).trans (turn_perm t').symm)
  unfold pick
  have : (List.range l.length).map (fun i => l.getD (q i) fld0) = ((List.range l.length).map q).map (fun i => l.getD i fld0) := by rw [List.map_map]; rfl
  rw [this, e, List.map_map]; rfl
theorem IsStable.length {l L : List Fld} (h : IsStable l L) : L.length = l.length := by
  obtain ⟨q, t, s, rfl⟩ := h
  simp [pick]
theorem IsStable.mem {l L : List Fld} (h : IsStable l L) {x : Fld} (hx : x ∈ L) : x ∈ l := by
  obtain ⟨q, t, s, rfl⟩ := h
  unfold pick at hx
  rw [List.mem_map] at hx
  obtain ⟨i, hi, rfl⟩ := hx
  have := t.lt (List.mem_range.1 hi)
  rw [List.getD_eq_getElem?_getD, List.getElem?_eq_getElem this]
  exact List.getElem_mem this
theorem IsStable.nil : IsStable [] [] := ⟨id, Turn.refl _ _ _, Sorted.short (by simp), rfl⟩

/-! the cells -/
def Cel.cells (V : Cel) (i : Nat) : List Value := [.string (V.key i), .int .i64 (V.kind i), .string (V.pkg i), .string (V.name i), .slice (V.a4 i) (V.n4 i) (V.d4 i), .slice (V.a5 i) (V.n5 i) (V.d5 i)]
theorem Cel.cells_at (V : Cel) (i j : Nat) (h : j < 6) : (V.cells i)[j]? = some (V.at i j) := by
  rcases (by omega : j = 0 ∨ j = 1 ∨ j = 2 ∨ j = 3 ∨ j = 4 ∨ j = 5) with rfl | rfl | rfl | rfl | rfl | rfl <;> rfl
def cel0 : Cel := ⟨fun _ => ⟨#[]⟩, fun _ => 0, fun _ => ⟨#[]⟩, fun _ => ⟨#[]⟩, fun _ => none, fun _ => 0, fun _ => 0, fun _ => none, fun _ => 0, fun _ => 0⟩
/-- V, and one element more. -/
def Cel.put (V : Cel) (k : Nat) (f : Fld) (A4 : Option Addr) (c4 : Nat) (A5 : Option Addr) (c5 : Nat) : Cel :=
  ⟨fun i => if i = k then f.name else V.key i, fun i => if i = k then f.type.kind else V.kind i, fun i => if i = k then f.type.pkg else V.pkg i, fun i => if i = k then f.type.name else V.name i,
    fun i => if i = k then A4 else V.a4 i, fun i => if i = k then f.type.args.length else V.n4 i, fun i => if i = k then c4 else V.d4 i, fun i => if i = k then A5 else V.a5 i, fun i => if i = k then f.type.res.length else V.n5 i, fun i => if i = k then c5 else V.d5 i⟩
theorem Cel.put_new (V : Cel) (k : Nat) (f : Fld) (A4 : Option Addr) (c4 : Nat) (A5 : Option Addr) (c5 : Nat) : (V.put k f A4 c4 A5 c5).cells k = [.string f.name, .int .i64 f.type.kind, .string f.type.pkg, .string f.type.name, .slice A4 f.type.args.length c4, .slice A5 f.type.res.length c5] := by simp [Cel.put, Cel.cells]
theorem Cel.put_old (V : Cel) {k i : Nat} (f : Fld) (A4 : Option Addr) (c4 : Nat) (A5 : Option Addr) (c5 : Nat) (h : i ≠ k) : (V.put k f A4 c4 A5 c5).cells i = V.cells i := by simp [Cel.put, Cel.cells, h]
theorem Cel.at_of {V U : Cel} {i k : Nat} (h : V.cells i = U.cells k) (j : Nat) (hj : j < 6) : V.at i j = U.at k j := by
  have h1 := V.cells_at i j hj; have h2 := U.cells_at k j hj
  rw [h, h2] at h1; injection h1 with h1; exact h1.symm
/-- The cells of V say the fields of l. -/
def ReadV (v : World) (l : List Fld) (V : Cel) : Prop := ∀ i (h : i < l.length), Vals v l[i].d (V.cells i)
theorem ReadV.nil (v : World) (V : Cel) : ReadV v [] V := fun i h => absurd h (by simp)
theorem ReadV.push {v : World} {l : List Fld} {V : Cel} (h : ReadV v l V) {f : Fld} {A4 : Option Addr} {c4 : Nat} {A5 : Option Addr} {c5 : Nat}
    (hv : Vals v f.d [.string f.name, .int .i64 f.type.kind, .string f.type.pkg, .string f.type.name, .slice A4 f.type.args.length c4, .slice A5 f.type.res.length c5]) : ReadV v (l ++ [f]) (V.put l.length f A4 c4 A5 c5) := by
  intro i hi
  by_cases c : i < l.length
  · rw [List.getElem_append_left c, V.put_old _ _ _ _ _ (by omega)]; exact h i c
  · have e : i = l.length := by simp at hi; omega
    subst e
    rw [List.getElem_append_right (Nat.le_refl _), V.put_new]
    simpa using hv
theorem ReadV.key {v : World} {l : List Fld} {V : Cel} (h : ReadV v l V) {i : Nat} (hi : i < l.length) : V.key i = nameAt l i := by
  obtain ⟨A4, c4, A5, c5, e, _⟩ := Fld.opn (h i hi)
  unfold Cel.cells at e
  injection e with e _
  injection e with e
  rw [e]; unfold nameAt
  rw [List.getD_eq_getElem?_getD, List.getElem?_eq_getElem hi]; rfl
theorem ReadV.stable {v : World} {l : List Fld} {V : Cel} (h : ReadV v l V) {q : Nat → Nat} (t : Turn 0 l.length id q) (s : Sorted V.key q 0 l.length) : IsStable l (pick l q) :=
  ⟨q, t, fun x y h1 h2 h3 => by
    have := s x y h1 h2 h3
    unfold Ahead at this ⊢
    rw [h.key (t.lt (by omega)), h.key (t.lt h3)] at this; exact this, rfl⟩
/-- A row in order, as a slice of fields. -/
theorem SortR.sl {v w : World} (hb : Below v.heap.size v w) {l : List Fld} {V : Cel} (hv : ReadV v l V) {g N c : Nat} {q : Nat → Nat} (h : SortR w g N l.length V q) (t : Turn 0 l.length id q) (hc : l.length ≤ c) (hr : l.length ≤ Reach) : SL w 6 (Fld.ds (pick l q)) l.length (some ⟨g, 0, none⟩) c := by
  have hlen : (pick l q).length = l.length := by simp [pick]
  refine ⟨by rw [Fld.ds_length, hlen], hc, hr, Elems.mk fun k hk => ?_⟩
  rw [Fld.ds_length, hlen] at hk
  rw [Fld.ds_get _ k (by rw [hlen]; exact hk)]
  have hq := t.lt hk
  have hg : (pick l q)[k]'(by rw [hlen]; exact hk) = l[q k] := by
    unfold pick
    rw [List.getElem_map, List.getElem_range, List.getD_eq_getElem?_getD, List.getElem?_eq_getElem hq]; rfl
  rw [hg, Nat.zero_add]
  refine Vals.cells ((hv (q k) hq).sub (Below.sub hb)) fun i u hi => ?_
  have hi6 : i < 6 := by have := (List.getElem?_eq_some_iff.1 hi).1; simpa [Cel.cells] using this
  obtain ⟨⟨x0, x1, x2, x3, x4, x5⟩, _⟩ := h.cell hk
  rcases (by omega : i = 0 ∨ i = 1 ∨ i = 2 ∨ i = 3 ∨ i = 4 ∨ i = 5) with rfl | rfl | rfl | rfl | rfl | rfl <;> simp [Cel.cells] at hi <;> subst hi <;> assumption

/-! own rows -/
/-- An own row of k elements of V in the order q. -/
def OwnS (w : World) (base : Nat) (u : Value) (k : Nat) (V : Cel) (q : Nat → Nat) : Prop := ∃ xs, w.ownsRow base 56 6 u k xs ∧ ∀ i, i < k → ∀ j, j < 6 → xs[i * 6 + j]? = some (V.at (q i) j)
theorem OwnS.nil (w : World) (base : Nat) (V : Cel) (q : Nat → Nat) : OwnS w base (.slice none 0 0) 0 V q := ⟨[], World.ownsRow_nil _ _ _ _, fun i h => absurd h (Nat.not_lt_zero _)⟩
theorem OwnS.cases {w : World} {base k : Nat} {u : Value} {V : Cel} {q : Nat → Nat} (h : OwnS w base u k V q) : (u = .slice none 0 0 ∧ k = 0) ∨ ∃ g c, u = .slice (some ⟨g, 0, none⟩) k c ∧ base ≤ g ∧ k ≤ c ∧ c ≤ maxLen ∧ SortR w g (c * 6) k V q := by
  obtain ⟨xs, ho, hx⟩ := h
  rcases ho.2 with h1 | ⟨g, cap, cur, hv, hbg, hg, hnc, hcm, hcs, htake⟩
  · exact .inl h1
  · refine .inr ⟨g, cap, hv, hbg, hnc, hcm, Nat.mul_le_mul_right 6 hnc, fun i => cur[i]?.getD undef, ⟨cur, hg, hcs, fun i hi => ?_⟩, fun i hi j hj => ?_⟩
    · show _ = some (cur[i]?.getD undef)
      rw [Array.getElem?_eq_getElem (show i < cur.size by omega)]; rfl
    · have h1 := hx i hi j hj
      rw [← htake, List.getElem?_take] at h1
      rw [if_pos (by omega), Array.getElem?_toList] at h1
      show cur[i * 6 + j]?.getD undef = _
      rw [h1]; rfl
theorem OwnS.back {w : World} {base g c k : Nat} {V : Cel} {q : Nat → Nat} (h : SortR w g (c * 6) k V q) (hb : base ≤ g) (hk : k ≤ c) (hc : c ≤ maxLen) : OwnS w base (.slice (some ⟨g, 0, none⟩) k c) k V q := by
  obtain ⟨f, ⟨cs, h1, h2, h3⟩, h4⟩ := h.row
  have hr := h.room
  refine ⟨cs.toList.take (k * 6), ⟨by rw [List.length_take, Array.length_toList]; omega, .inr ⟨g, c, cs, rfl, hb, h1, hk, hc, h2, rfl⟩⟩, fun i hi j hj => ?_⟩
  rw [List.getElem?_take, if_pos (by omega), Array.getElem?_toList, h3 _ (by omega), h4 i hi j hj]
theorem OwnS.chg {w w' : World} {base k : Nat} {u : Value} {V : Cel} {q : Nat → Nat} (h : OwnS w base u k V q) (hc : Chg (fun _ => False) w w') : OwnS w' base u k V q := by
  obtain ⟨xs, ho, hx⟩ := h
  exact ⟨xs, own_grows hc ho, hx⟩
theorem OwnS.low {w : World} {base base' k : Nat} {u : Value} {V : Cel} {q : Nat → Nat} (h : OwnS w base u k V q) (hb : base' ≤ base) : OwnS w base' u k V q := by
  obtain ⟨xs, ho, hx⟩ := h
  refine ⟨xs, ⟨ho.1, ho.2.imp id ?_⟩, hx⟩
  rintro ⟨g, cap, cur, h1, h2, h3⟩
  exact ⟨g, cap, cur, h1, by omega, h3⟩
/-- One element is appended. -/
theorem OwnS.push {w' : World} {base k : Nat} {u' : Value} {V U : Cel} {q : Nat → Nat} {xs news : List Value} (hx : ∀ i, i < k → ∀ j, j < 6 → xs[i * 6 + j]? = some (V.at (q i) j)) (hlen : xs.length = k * 6)
    (ho : w'.ownsRow base 56 6 u' (k + 1) (xs ++ news)) (hold : ∀ i, i < k → U.cells (q i) = V.cells (q i)) (hq : q k = k) (hnew : U.cells k = news) : OwnS w' base u' (k + 1) U q := by
  refine ⟨_, ho, fun i hi j hj => ?_⟩
  by_cases c : i < k
  · rw [List.getElem?_append_left (by omega), hx i c j hj, Cel.at_of (hold i c) j hj]
  · obtain rfl : i = k := by omega
    rw [List.getElem?_append_right (by omega), hlen, show i * 6 + j - i * 6 = j by omega, ← hnew, U.cells_at i j hj, hq]

set_option maxRecDepth 100000 in
set_option maxHeartbeats 3200000 in
theorem ins_none (w : World) (fv : Value) : Calls Try.prog 76 #[.slice none 0 0, .int .i64 0, .int .i64 0, fv] w (fun e w' => e = .returned (.tuple #[]) ∧ w' = w) := by
  go_enter Try.func76, Try.ntmps76
  go_wp2_with fail
  go_loopw [8] (fun s wr => s = .int .i64 1 ∧ wr = w) (fun _ _ => 0)
  case atStart => exact ⟨rfl, rfl⟩
  case round =>
    obtain ⟨rfl, rfl⟩ := hrel
    go_wp2_with fail
    go_end0
    exact ⟨rfl, rfl⟩
set_option maxRecDepth 100000 in
set_option maxHeartbeats 3200000 in
theorem stable_none (w : World) (fv : Value) : Calls Try.prog 71 #[.slice none 0 0, .int .i64 0, fv] w (fun e w' => e = .returned (.tuple #[]) ∧ w' = w) := by
  go_enter Try.func71, Try.ntmps71
  go_wp2_with fail
  go_loopw [7, 8] (fun s t wr => s = .int .i64 0 ∧ t = .int .i64 20 ∧ wr = w) (fun _ _ _ => 0)
  case atStart => exact ⟨rfl, rfl, rfl⟩
  case round =>
    obtain ⟨rfl, rfl, rfl⟩ := hrel
    go_wp2_with fail
    refine (ins_none wr fv).mono ?_
    rintro e w2 ⟨rfl, rfl⟩
    go_wp2_with fail
    go_loopw [6] (fun s wx => s = .int .i64 20 ∧ wx = w2) (fun _ _ => 0)
    case atStart => exact ⟨rfl, rfl⟩
    case round =>
      obtain ⟨rfl, rfl⟩ := hrel
      go_wp2_with fail
      go_end0
      exact ⟨rfl, rfl⟩
set_option maxRecDepth 100000 in
set_option maxHeartbeats 3200000 in
/-- A row that is none: nothing is sorted. -/
theorem sorts_none (w : World) (fv : Value) : Calls Try.prog 59 #[.slice none 0 0, fv] w (fun e w' => e = .returned (.tuple #[]) ∧ w' = w) := by
  go_enter Try.func59, Try.ntmps59
  go_wp2_with fail
  refine (stable_none w fv).mono ?_
  rintro e w2 ⟨rfl, rfl⟩
  go_wp2_with fail
  go_end0
  exact ⟨rfl, rfl⟩
/-- A row of the call's own is sorted, whatever it is. -/
theorem sorts_own (w : World) (base : Nat) (u : Value) (n : Nat) (V : Cel) (hn : n ≤ 1000000) (H : OwnS w base u n V id) :
    Calls Try.prog 59 #[u, .func (.func 60) #[] #[]] w (fun e w' => e = .returned (.tuple #[]) ∧ ∃ q, OwnS w' base u n V q ∧ Turn 0 n id q ∧ Sorted V.key q 0 n ∧ Chg (fun j => u.ownBlock = some j) w w') := by
  rcases H.cases with ⟨rfl, rfl⟩ | ⟨g, c, rfl, hb, hk, hc, hs⟩
  · refine (sorts_none w _).mono ?_
    rintro e w' ⟨rfl, rfl⟩
    exact ⟨rfl, id, H, Turn.refl _ _ _, Sorted.short (by omega), Chg.refl _ _⟩
  · refine (sorts_any w g (c * 6) n c V hn hk hs).mono ?_
    rintro e w' ⟨q, ⟨rfl, hs', hc'⟩, ht, ho⟩
    exact ⟨rfl, q, OwnS.back hs' hb hk hc, ht, ho, hc'.mono (fun i _ e => by show some g = some i; rw [e])⟩
end Go.Proofs.Ytiecbgclkdlpkaa
