/-
  Lists that export's reader takes: what holds while a row of them grows. No condition.
-/
import Derived.Test.YtghnaaahkbnhlaaPar
import Derived.Test.YtghnaaahkbnhlaaNew
import Derived.Test.YtghnaaahkbnhlaaRwA
import Derived.Test.YtghnaaahkbnhlaaFits
namespace Go.Proofs.Ytghnaaahkbnhlaa
open Go.RowKit Go.Lib
set_option linter.unusedVariables false
set_option linter.unusedSimpArgs false

/-- A struct by value, in memory made since w. -/
def ValR {α : Type} (w : World) (dd : α → List D) (x : α) (v : Value) (w' : World) : Prop := ∃ vs, v = .agg vs.toArray ∧ Vals (NewW w.heap.size none w') (dd x) vs
/-- A list, in memory made since w, in a row of the call's own. -/
def ValL {α : Type} (w : World) (dd : α → List D) (sz : Nat) (xs : List α) (v : Value) (w' : World) : Prop := DV (NewW w.heap.size none w') (.lst sz (xs.map dd)) v ∧ ∃ e segs, w'.ownsRow w.heap.size e sz v xs.length segs
def RdOne {α : Type} (W0 : World) (br : Nat) (dp : Int) (one : Pa α) (dd : α → List D) (f : Nat) : Prop :=
  ∀ (w : World) (l : List UInt8), RdS W0 w br l dp → Calls Try.prog f #[.pointer (some ⟨br, 0, none⟩)] w (RdP W0 br dp w (one l) (ValR w dd))

theorem RdS.lt {W0 w : World} {br : Nat} {l : List UInt8} {dp : Int} (h : RdS W0 w br l dp) : br < w.heap.size := by
  obtain ⟨b, o, c, hb, _⟩ := h.at_
  exact lt_of_block hb
/-- The reader stands where other blocks change. -/
theorem RdS.keep {W0 w w' : World} {br : Nat} {l : List UInt8} {dp : Int} (h : RdS W0 w br l dp) {S : Nat → Prop} (hc : Chg S w w') (h1 : ¬ S br) (h2 : ∀ k, S k → W0.heap.size ≤ k) : RdS W0 w' br l dp := by
  obtain ⟨b, o, c, hb, hl, hr⟩ := h.at_
  exact ⟨Below.chg h.old hc h.old.size h2, h.br_ge, ⟨b, o, c, hc.heap hb h1, hl, hr⟩, h.len⟩

structure RdRow {α : Type} (W0 w : World) (br : Nat) (dp : Int) (one : Pa α) (dd : α → List D) (sz : Nat) (e : TypeId) (tot : Option (List α × List UInt8)) (m : Nat) (wr : World) (v : Value) (xs : List α) (segs : List (List Value)) (lr : List UInt8) : Prop where
  more : More one tot m xs lr
  rd : RdS W0 wr br lr dp
  chg : Chg (fun k => k = br) w wr
  own : wr.ownsRow w.heap.size e sz v xs.length segs.flatten
  segs_len : segs.length = xs.length
  segs_sz : ∀ s ∈ segs, s.length = sz
  vals : ∀ i (h1 : i < xs.length) (h2 : i < segs.length), Vals (NewW w.heap.size v.ownBlock wr) (dd xs[i]) segs[i]
  few : xs.length + m ≤ 262144

theorem RdRow.start {α : Type} {W0 w w1 : World} {br : Nat} {dp : Int} (one : Pa α) (dd : α → List D) (sz : Nat) (e : TypeId) {n : Nat} {l1 : List UInt8} (hs : RdS W0 w1 br l1 dp) (hc : Chg (fun k => k = br) w w1) (hn : n ≤ 262144) :
    RdRow W0 w br dp one dd sz e (timesP one n l1) n w1 (.slice none 0 0) [] [] l1 :=
  ⟨More.start one n l1, hs, hc, World.ownsRow_nil _ _ _ _, rfl, fun s h => by simp at h, fun i h => absurd h (by simp), by simpa using hn⟩

theorem RdRow.next {α : Type} {W0 w wr w2 wA w' : World} {br : Nat} {dp : Int} {one : Pa α} {dd : α → List D} {sz : Nat} {e : TypeId} {tot : Option (List α × List UInt8)} {m : Nat} {v v' : Value} {xs : List α} {segs : List (List Value)} {lr l1 : List UInt8} {x : α} {vs : List Value}
    (h : RdRow W0 w br dp one dd sz e tot (m + 1) wr v xs segs lr) (hbr : br < w.heap.size) (hq : one lr = some (x, l1)) (hs : RdS W0 w2 br l1 dp) (hc : Chg (fun k => k = br) wr w2) (hv : Vals (NewW wr.heap.size none w2) (dd x) vs) (hsz : vs.length = sz)
    (hA : Chg (fun _ => False) w2 wA) (ho : w'.ownsRow w.heap.size e sz v' (xs.length + 1) (segs.flatten ++ vs)) (hg : wA.grownBy w' v.ownBlock) (hr : v'.ownBlock = v.ownBlock ∨ v'.ownBlock = some wA.heap.size) :
    RdRow W0 w br dp one dd sz e tot m w' v' (xs ++ [x]) (segs ++ [vs]) l1 := by
  have hw : w.heap.size ≤ wr.heap.size := h.chg.size
  have hlt : ∀ k, v.ownBlock = some k → w.heap.size ≤ k ∧ k < wr.heap.size := fun k hk => h.own.lt k hk
  have hc2 : Chg (fun k => v.ownBlock = some k) w2 w' := (hA.mono (fun _ _ q => q.elim)).grown hg (fun k _ e => e)
  have hW0 : W0.heap.size ≤ w.heap.size := Nat.le_trans h.rd.br_ge (Nat.le_of_lt hbr)
  refine ⟨h.more.next hq, hs.keep hc2 (fun q => ?_) (fun k q => Nat.le_trans hW0 (hlt k q).1), ?_, ?_, by simp [h.segs_len], ?_, ?_, ?_⟩
  · have := (hlt br q).1; omega
  · exact (h.chg.trans hc (fun _ _ e => e)).trans hc2 (fun i hi q => by have := (hlt i q).1; omega)
  · rw [List.length_append, List.flatten_append]
    simpa using ho
  · intro s hs'
    rcases List.mem_append.1 hs' with q | q
    · exact h.segs_sz s q
    · rw [List.mem_singleton.1 q]; exact hsz
  · intro i h1 h2
    by_cases hi : i < xs.length
    · have hi2 : i < segs.length := by rw [h.segs_len]; exact hi
      rw [List.getElem_append_left hi, List.getElem_append_left hi2]
      refine ((h.vals i hi hi2).sub (new_chg hc (g' := v.ownBlock) (fun k q _ => .inl (by omega)) (fun k q _ => .inr q))).sub (new_chg hc2 (fun k q _ => .inr q.symm) (fun k q hk => ?_))
      rcases hr with e | e
      · rw [e] at q; exact .inr q
      · rw [e] at q; injection q with q; have := hA.size; omega
    · have hi' : i = xs.length := by simp at h1; omega
      subst hi'
      have hsl := h.segs_len
      rw [List.getElem_append_right (Nat.le_refl _), List.getElem_append_right (by omega)]
      simp only [Nat.sub_self, hsl, List.getElem_cons_zero]
      refine hv.sub fun a u q => ?_
      obtain ⟨q1, q2⟩ := (new_cell _ _ _ _ _).1 q
      have hlt2 := World.block_lt_of_cell? w2 (a := a) q2
      have hge : wr.heap.size ≤ a.block := by
        rcases Nat.lt_or_ge a.block wr.heap.size with hx | hx
        · exact absurd (.inl hx) q1
        · exact hx
      refine (new_cell _ _ _ _ _).2 ⟨fun hx => ?_, hc2.cell q2 (fun hx => by have := (hlt _ hx).2; omega)⟩
      rcases hx with hx | hx
      · omega
      · rcases hr with e | e
        · rw [e] at hx; have := (hlt _ hx.symm).2; omega
        · rw [e] at hx; injection hx with hx; have := hA.size; omega
  · have := h.few
    rw [List.length_append]
    simp
    omega

theorem RdRow.value {α : Type} {W0 w wr : World} {br : Nat} {dp : Int} {one : Pa α} {dd : α → List D} {sz : Nat} {e : TypeId} {tot : Option (List α × List UInt8)} {A : Option Addr} {c : Nat} {xs : List α} {segs : List (List Value)} {lr : List UInt8}
    (h : RdRow W0 w br dp one dd sz e tot 0 wr (.slice A xs.length c) xs segs lr) : tot = some (xs, lr) ∧ ValL w dd sz xs (.slice A xs.length c) wr :=
  ⟨h.more.done, row_done h.own (Nat.le_refl _) (by have := h.few; unfold Reach; omega) h.segs_len h.segs_sz h.vals, _, _, h.own⟩
theorem RdRow.lost {α : Type} {W0 w wr : World} {br : Nat} {dp : Int} {one : Pa α} {dd : α → List D} {sz : Nat} {e : TypeId} {tot : Option (List α × List UInt8)} {m : Nat} {v : Value} {xs : List α} {segs : List (List Value)} {lr : List UInt8}
    (h : RdRow W0 w br dp one dd sz e tot (m + 1) wr v xs segs lr) (hq : one lr = none) : tot = none := h.more.fail hq

/-- append of one struct to a row of the call's own. -/
theorem wpList_append_rec {P : Program} (w : World) {ops : Array Oper} {rest : List Oper} {o : Oper} {a : Act} {Q : Exit → Act → World → Prop} (hgd : o.guard = none) (sl x : Operand) (t : TypeId)
    (ho : o.op = .call { callee := .builtin .append, args := #[sl, x], argTypes := #[t, t] })
    (base : Nat) (e : TypeId) (z : Value) (size bytes : Nat) (hinfo : (P.info? e).map (fun i => (i.zero, i.size, i.bytes)) = some (some z, size, bytes)) (ht : P.underlying t = some (.slice e)) (hzs : z.cells.size = size) (hsz : 0 < size)
    (v : Value) (n : Nat) (xs : List Value) (hs : a.eval sl = v) (hown : w.ownsRow base e size v n xs) (b c : Nat) (news : List Value) (hx : a.eval x = .slice (some ⟨b, 0, none⟩) 1 c) (hl : news.length = size)
    (hnews : ∀ j u, news[j]? = some u → w.cell? ⟨b, j, none⟩ = some u) (h1 : ∀ u ∈ news, u.oneCell' = true)
    (hbytes : (n + 1) * bytes ≤ 140737488355328) (hn : n + 1 ≤ maxLen) (hbase : base ≤ w.heap.size)
    (h : ∀ v' w', w'.ownsRow base e size v' (n + 1) (xs ++ news) → w.grownBy w' v.ownBlock → (v'.ownBlock = v.ownBlock ∨ v'.ownBlock = some w.heap.size) → wpList P ops Q rest (a.put o.dst v') w') : wpList P ops Q (o :: rest) a w := by
  obtain ⟨i, hi, hz, hsize, hby⟩ : ∃ i, P.info? e = some i ∧ i.zero = some z ∧ i.size = size ∧ i.bytes = bytes := by
    cases hi : P.info? e with
    | none => rw [hi] at hinfo; cases hinfo
    | some i =>
      rw [hi] at hinfo
      simp only [Option.map_some, Option.some.injEq, Prod.mk.injEq] at hinfo
      exact ⟨i, rfl, hinfo.1, hinfo.2.1, hinfo.2.2⟩
  refine Go.wpList_append_own_at (P := P) w hgd sl x t ho base e i z size bytes ht hi hz hsize hby hzs hsz v n xs hs hown ⟨b, 0, none⟩ 1 c news hx (by omega) (fun j q hj => ?_) h1 hn hbytes hbase (fun v' w' h1 h2 _ h4 => h v' w' h1 h2 h4)
  have ha : (⟨b, 0, none⟩ : Addr).add j = ⟨b, j, none⟩ := by unfold Addr.add; split <;> simp_all
  rw [ha]
  exact hnews j q hj
end Go.Proofs.Ytghnaaahkbnhlaa
