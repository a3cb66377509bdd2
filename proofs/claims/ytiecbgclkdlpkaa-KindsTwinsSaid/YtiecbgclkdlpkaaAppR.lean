/-
  Rows of structs of the call's own that grow element by element, in memory made since; what a call makes anew. No condition.
-/
import Derived.Test.YtiecbgclkdlpkaaNew
import Derived.Test.YtiecbgclkdlpkaaAns
import Derived.Maps.AppendAt
namespace Go.Proofs.Ytiecbgclkdlpkaa
open Go.RowKit
set_option linter.unusedVariables false

/-- A function value of the program is entered. -/
def Enters (f : Nat) : Prop := ∀ (args : Array Value) (w : World), (callFunc f args).run Try.prog w = .ok (.enter f args) w
/-- A struct by value, made anew. -/
def NewV {α : Type} (w : World) (dd : α → List D) (x : α) (e : Ending) (w' : World) : Prop := ∃ vs, e = .returned (.agg vs.toArray) ∧ Vals (NewW w.heap.size none w') (dd x) vs ∧ Below w.heap.size w w'
/-- A list, made anew, in a row of the call's own. -/
def NewL {α : Type} (w : World) (dd : α → List D) (sz : Nat) (xs : List α) (e : Ending) (w' : World) : Prop :=
  ∃ A c, e = .returned (.slice A xs.length c) ∧ DV (NewW w.heap.size none w') (.lst sz (xs.map dd)) (.slice A xs.length c) ∧ (∃ et segs, w'.ownsRow w.heap.size et sz (.slice A xs.length c) xs.length segs) ∧ Below w.heap.size w w'

theorem own_grows {w wr : World} {b n size : Nat} {e : TypeId} {v : Value} {xs : List Value} (k : Chg (fun _ => False) w wr) (ho : w.ownsRow b e size v n xs) : wr.ownsRow b e size v n xs :=
  ho.kept ⟨k.os, k.tape, k.output, k.size, fun i hi _ => k.block i hi id⟩ (row := none) (by cases v.ownBlock <;> simp)
theorem own_apart {w wr : World} {b n size : Nat} {e : TypeId} {v : Value} {xs : List Value} {S : Nat → Prop} (k : Chg S w wr) (hS : ∀ i, S i → i < b) (ho : w.ownsRow b e size v n xs) : wr.ownsRow b e size v n xs := by
  refine ⟨ho.1, ho.2.imp id ?_⟩
  rintro ⟨g, cap, cur, h1, h2, h3, h4⟩
  exact ⟨g, cap, cur, h1, h2, k.heap h3 (fun q => by have := hS _ q; omega), h4⟩

/-- append of one struct to a row of the call's own. -/
theorem wpList_append_rec {P : Program} (w : World) {ops : Array Oper} {rest : List Oper} {o : Oper} {a : Act} {Q : Exit → Act → World → Prop} (hgd : o.guard = none) (sl x : Operand) (t : TypeId)
    (ho : o.op = .call { callee := .builtin .append, args := #[sl, x], argTypes := #[t, t] })
    (base : Nat) (e : TypeId) (z : Value) (size bytes : Nat) (hinfo : (P.info? e).map (fun i => (i.zero, i.size, i.bytes)) = some (some z, size, bytes)) (ht : P.underlying t = some (.slice e)) (hzs : z.cells.size = size) (hsz : 0 < size)
    (v : Value) (n : Nat) (xs : List Value) (hs : a.eval sl = v) (hown : w.ownsRow base e size v n xs) (b c : Nat) (news : List Value) (hx : a.eval x = .slice (some ⟨b, 0, none⟩) 1 c) (hl : news.length = size)
    (hnews : ∀ j u, news[j]? = some u → w.cell? ⟨b, j, none⟩ = some u) (h1 : ∀ u ∈ news, u.oneCell' = true)
    (hbytes : (n + 1) * bytes ≤ 140737488355328) (hn : n + 1 ≤ maxLen) (hbase : base ≤ w.heap.size)
    (h : ∀ v' w', w'.ownsRow base e size v' (n + 1) (xs ++ news) → w.grownBy w' v.ownBlock → (v'.ownBlock = v.ownBlock ∨ v'.ownBlock = some w.heap.size) → wpList P ops Q rest (a.put o.dst v') w') : wpList P ops Q (o :: rest) a w := by
  obtain ⟨i, hi, hz, hsize, hby⟩ : ∃ i, P.info? e = some i ∧ i.zero = some z ∧ i.size = size ∧ i.bytes = bytes := by
    cases hi : P.info? e with
    | none => rw [hi] at hinfo; cases hinfo
    | some i =>
      rw [hi] at hinfo
      simp only [Option.map_some, Option.some.injEq, Prod.mk.injEq] at hinfo
      exact ⟨i, rfl, hinfo.1, hinfo.2.1, hinfo.2.2⟩
  refine Go.wpList_append_own_at (P := P) w hgd sl x t ho base e i z size bytes ht hi hz hsize hby hzs hsz v n xs hs hown ⟨b, 0, none⟩ 1 c news hx (by omega) (fun j q hj => ?_) h1 hn hbytes hbase (fun v' w' h1 h2 _ h4 => h v' w' h1 h2 h4)
  have ha : (⟨b, 0, none⟩ : Addr).add j = ⟨b, j, none⟩ := by unfold Addr.add; split <;> simp_all
  rw [ha]
  exact hnews j q hj

/-- While a row of what is made grows. -/
structure EachRow {β : Type} (w wr : World) (dd : β → List D) (sz : Nat) (e : TypeId) (v : Value) (ys : List β) (segs : List (List Value)) : Prop where
  chg : Chg (fun _ => False) w wr
  own : wr.ownsRow w.heap.size e sz v ys.length segs.flatten
  segs_len : segs.length = ys.length
  segs_sz : ∀ s ∈ segs, s.length = sz
  vals : ∀ i (h1 : i < ys.length) (h2 : i < segs.length), Vals (NewW w.heap.size v.ownBlock wr) (dd ys[i]) segs[i]
theorem EachRow.start {β : Type} (w : World) (dd : β → List D) (sz : Nat) (e : TypeId) : EachRow w w dd sz e (.slice none 0 0) [] [] :=
  ⟨Chg.refl _ _, World.ownsRow_nil _ _ _ _, rfl, fun s h => by simp at h, fun i h => absurd h (by simp)⟩
theorem EachRow.next {β : Type} {w wr w2 wA w' : World} {dd : β → List D} {sz : Nat} {e : TypeId} {v v' : Value} {ys : List β} {segs : List (List Value)} {y : β} {vs : List Value}
    (h : EachRow w wr dd sz e v ys segs) (hc : Chg (fun _ => False) wr w2) (hv : Vals (NewW wr.heap.size none w2) (dd y) vs) (hsz : vs.length = sz)
    (hA : Chg (fun _ => False) w2 wA) (ho : w'.ownsRow w.heap.size e sz v' (ys.length + 1) (segs.flatten ++ vs)) (hg : wA.grownBy w' v.ownBlock) (hr : v'.ownBlock = v.ownBlock ∨ v'.ownBlock = some wA.heap.size) :
    EachRow w w' dd sz e v' (ys ++ [y]) (segs ++ [vs]) := by
  have hw : w.heap.size ≤ wr.heap.size := h.chg.size
  have hlt : ∀ k, v.ownBlock = some k → w.heap.size ≤ k ∧ k < wr.heap.size := fun k hk => h.own.lt k hk
  have hc2 : Chg (fun k => v.ownBlock = some k) w2 w' := (hA.mono (fun _ _ q => q.elim)).grown hg (fun k _ e => e)
  refine ⟨?_, ?_, by simp [h.segs_len], ?_, ?_⟩
  · exact (h.chg.trans hc (fun _ _ q => q)).trans hc2 (fun i hi q => by have := (hlt i q).1; omega)
  · rw [List.length_append, List.flatten_append]
    simpa using ho
  · intro s hs'
    rcases List.mem_append.1 hs' with q | q
    · exact h.segs_sz s q
    · rw [List.mem_singleton.1 q]; exact hsz
  · intro i h1 h2
    by_cases hi : i < ys.length
    · have hi2 : i < segs.length := by rw [h.segs_len]; exact hi
      rw [List.getElem_append_left hi, List.getElem_append_left hi2]
      refine ((h.vals i hi hi2).sub (new_chg hc (g' := v.ownBlock) (fun k q _ => q.elim) (fun k q _ => .inr q))).sub (new_chg hc2 (fun k q _ => .inr q.symm) (fun k q hk => ?_))
      rcases hr with e | e
      · rw [e] at q; exact .inr q
      · rw [e] at q; injection q with q; have := hA.size; omega
    · have hi' : i = ys.length := by simp at h1; omega
      subst hi'
      have hsl := h.segs_len
      rw [List.getElem_append_right (Nat.le_refl _), List.getElem_append_right (by omega)]
      simp only [Nat.sub_self, hsl, List.getElem_cons_zero]
      refine hv.sub fun a u q => ?_
      obtain ⟨q1, q2⟩ := (new_cell _ _ _ _ _).1 q
      have hlt2 := World.block_lt_of_cell? w2 (a := a) q2
      have hge : wr.heap.size ≤ a.block := by
        rcases Nat.lt_or_ge a.block wr.heap.size with hx | hx
        · exact absurd (.inl hx) q1
        · exact hx
      refine (new_cell _ _ _ _ _).2 ⟨fun hx => ?_, hc2.cell q2 (fun hx => by have := (hlt _ hx).2; omega)⟩
      rcases hx with hx | hx
      · omega
      · rcases hr with e | e
        · rw [e] at hx; have := (hlt _ hx.symm).2; omega
        · rw [e] at hx; injection hx with hx; have := hA.size; omega
theorem EachRow.done {β : Type} {w wr : World} {dd : β → List D} {sz : Nat} {e : TypeId} {A : Option Addr} {c : Nat} {ys : List β} {segs : List (List Value)} (h : EachRow w wr dd sz e (.slice A ys.length c) ys segs) (hn : ys.length ≤ Reach) : NewL w dd sz ys (.returned (.slice A ys.length c)) wr :=
  ⟨A, c, rfl, row_done h.own (Nat.le_refl _) hn h.segs_len h.segs_sz h.vals, ⟨e, _, h.own⟩, h.chg.below⟩
theorem below_none {a b : World} (h : Below a.heap.size a b) : Chg (fun _ => False) a b := Chg.of_below h _
theorem map_take_snoc {α β : Type} (F : α → β) (l : List α) (k : Nat) (h : k < l.length) : (l.take (k + 1)).map F = (l.take k).map F ++ [F l[k]] := by
  rw [List.take_succ_eq_append_getElem h, List.map_append]; rfl
end Go.Proofs.Ytiecbgclkdlpkaa
