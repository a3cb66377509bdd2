/-
  Maps that the call itself makes, whatever they hold: a look-up, a store. The conditions: the keys are of a plain kind; the map lies in memory as it is said.
-/
import Derived.Test.YtiecbgclkdlpkaaBase
import Derived.MapKept
import Derived.Maps.OwnOps
namespace Go.Proofs.Ytiecbgclkdlpkaa
open Go.RowKit Go.MapKept
set_option linter.unusedVariables false

theorem ba_iff (a b : ByteArray) : (a.toList == b.toList) = true ↔ a = b := by
  rw [beq_iff_eq]
  constructor
  · intro h
    rw [ByteArray.toList_eq, ByteArray.toList_eq] at h
    cases a; cases b
    simp only at h
    rw [Array.toList_inj.1 h]
  · rintro rfl; rfl
/-- Keys of one kind. -/
structure KeyK (P : Program) (kt : TypeId) (d : TypeDesc) {κ : Type} (f : κ → Value) (eqk : κ → κ → Bool) : Prop where
  und : P.underlying kt = some d
  isKey : ∀ a, IsKey d (f a)
  inj : ∀ a b, f a = f b → a = b
  eq_iff : ∀ a b, eqk a b = true ↔ a = b
/-- Block b is a map that holds m. -/
def MapS {κ : Type} (w : World) (b : Nat) (d : TypeDesc) (f : κ → Value) (m : κ → Option Value) : Prop :=
  ∃ es clock, w.heap[b]? = some (.map es clock) ∧ (∀ (i j : Nat) (x y : MapEntry), es[i]? = some x → es[j]? = some y → x.key = y.key → i = j) ∧ (∀ x ∈ es.toList, IsKey d x.key) ∧ (∀ x ∈ es.toList, ∃ a, x.key = f a ∧ m a = some x.val) ∧ (∀ a v, m a = some v → ∃ x ∈ es.toList, x.key = f a)
def updM {κ : Type} (eqk : κ → κ → Bool) (m : κ → Option Value) (k : κ) (v : Value) : κ → Option Value := fun a => if eqk a k = true then some v else m a

section
variable {P : Program} {kt e T : TypeId} {d : TypeDesc} {κ : Type} {f : κ → Value} {eqk : κ → κ → Bool} {w : World} {b : Nat} {m : κ → Option Value}

theorem MapS.made (w : World) (d : TypeDesc) (f : κ → Value) : MapS (w.alloc (.map #[] 0)) w.heap.size d f (fun _ => none) :=
  ⟨#[], 0, heap_alloc_new w _, fun i j x y h => by simp at h, fun x h => by simp at h, fun x h => by simp at h, fun a v h => by cases h⟩
theorem MapS.lt (h : MapS w b d f m) : b < w.heap.size := by
  obtain ⟨es, clock, hb, _⟩ := h
  exact lt_of_block hb
theorem MapS.keep {w' : World} (h : MapS w b d f m) (hb' : w'.heap[b]? = w.heap[b]?) : MapS w' b d f m := by
  obtain ⟨es, clock, hb, r⟩ := h
  exact ⟨es, clock, hb'.trans hb, r⟩
/-- What is found. -/
theorem MapS.find (h : MapS w b d f m) (K : KeyK P kt d f eqk) (k : κ) : ∃ es clock, w.heap[b]? = some (.map es clock) ∧
    ((Instr.findNow d (f k) es.toList 0 = some none ∧ m k = none) ∨ ∃ j v, Instr.findNow d (f k) es.toList 0 = some (some (j, v)) ∧ m k = some v) := by
  obtain ⟨es, clock, hb, h0, h1, h2, h3⟩ := h
  refine ⟨es, clock, hb, ?_⟩
  rcases findNow_spec (K.isKey k) es.toList 0 h1 with ⟨q1, q2⟩ | ⟨j, e0, q1, q2, q3⟩
  · refine .inl ⟨q1, ?_⟩
    cases hm : m k with
    | none => rfl
    | some v =>
      obtain ⟨x, hx, hxk⟩ := h3 k v hm
      exact absurd hxk (q2 x hx)
  · refine .inr ⟨j, e0.val, by simpa using q1, ?_⟩
    have hmem : e0 ∈ es.toList := List.mem_of_getElem? q2
    obtain ⟨a, ha, hv⟩ := h2 e0 hmem
    rw [K.inj k a (q3.symm.trans ha)]
    exact hv
theorem MapS.lookup (h : MapS w b d f m) (K : KeyK P kt d f eqk) (hT : P.underlying T = some (.map kt e)) {z : Value} (hz : (zeroValue e).run P w = .ok z w) (k : κ) (ok : Bool) :
    (Instr.lookup T (.map (some b)) (f k) ok).run P w = .ok (if ok = true then .tuple #[(m k).getD z, .bool (m k).isSome] else (m k).getD z) w := by
  obtain ⟨es, clock, hb, h1 | ⟨j, v, h1⟩⟩ := h.find K k
  · rw [h1.2]
    cases ok <;> simp [Instr.lookup, run_underlying hT, MapKept.run_getObj_map hb, run_checkKey K.und (K.isKey k), run_findKey K.und h1.1, Result.andThen, hz]
  · rw [h1.2]
    cases ok <;> simp [Instr.lookup, run_underlying hT, MapKept.run_getObj_map hb, run_checkKey K.und (K.isKey k), run_findKey K.und h1.1, Result.andThen]
theorem MapS.update (h : MapS w b d f m) (K : KeyK P kt d f eqk) (hT : P.underlying T = some (.map kt e)) (k : κ) (v : Value) :
    ∃ w', (Instr.mapUpdate T (.map (some b)) (f k) v).run P w = .ok () w' ∧ MapS w' b d f (updM eqk m k v) ∧ Chg (fun j => j = b) w w' := by
  obtain ⟨es, clock, hb, h0, h1, h2, h3⟩ := h
  have hchg : ∀ o, Chg (fun j => j = b) w { w with heap := w.heap.setIfInBounds b o } := fun o => ⟨rfl, rfl, rfl, by simp, fun j hj hne => (heap_set hb).2 j hne⟩
  rcases findNow_spec (K.isKey k) es.toList 0 h1 with ⟨q1, q2⟩ | ⟨j, e0, q1, q2, q3⟩
  · refine ⟨{ w with heap := w.heap.setIfInBounds b (.map (es.push ⟨f k, v, clock⟩) (clock + 1)) }, ?_, ⟨es.push ⟨f k, v, clock⟩, clock + 1, (heap_set hb).1, ?_, ?_, ?_, ?_⟩, hchg _⟩
    · simp [Instr.mapUpdate, run_underlying hT, MapKept.run_getObj_map hb, run_checkKey K.und (K.isKey k), run_findKey K.und q1, MapKept.run_setObj_map _ hb, Result.andThen]
    · intro i j x y hx hy hk
      rw [Array.getElem?_push] at hx hy
      split at hx
      · split at hy
        · omega
        · injection hx with hx
          subst hx
          exact absurd hk.symm (q2 y (List.mem_of_getElem? (by rw [Array.getElem?_toList]; exact hy)))
      · split at hy
        · injection hy with hy
          subst hy
          exact absurd hk (q2 x (List.mem_of_getElem? (by rw [Array.getElem?_toList]; exact hx)))
        · exact h0 i j x y hx hy hk
    · intro x hx
      simp only [Array.toList_push, List.mem_append, List.mem_singleton] at hx
      rcases hx with hx | rfl
      · exact h1 x hx
      · exact K.isKey k
    · intro x hx
      simp only [Array.toList_push, List.mem_append, List.mem_singleton] at hx
      rcases hx with hx | rfl
      · obtain ⟨a, ha, hm⟩ := h2 x hx
        refine ⟨a, ha, ?_⟩
        unfold updM
        rw [if_neg (fun hq => q2 x hx (by rw [ha, (K.eq_iff a k).1 hq])), hm]
      · exact ⟨k, rfl, by unfold updM; rw [if_pos ((K.eq_iff k k).2 rfl)]⟩
    · intro a u hu
      simp only [Array.toList_push, List.mem_append, List.mem_singleton]
      unfold updM at hu
      by_cases hq : eqk a k = true
      · exact ⟨⟨f k, v, clock⟩, .inr rfl, by rw [(K.eq_iff a k).1 hq]⟩
      · rw [if_neg hq] at hu
        obtain ⟨x, hx, hxk⟩ := h3 a u hu
        exact ⟨x, .inl hx, hxk⟩
  · have hj : es[j]? = some e0 := by simpa using q2
    have q1 : Instr.findNow d (f k) es.toList 0 = some (some (j, e0.val)) := by simpa using q1
    have hat : ∀ i x, (es.modify j (fun e' => { e' with key := f k, val := v }))[i]? = some x → ∃ y, es[i]? = some y ∧ x.key = y.key ∧ ((i = j ∧ x.val = v) ∨ (i ≠ j ∧ x = y)) := by
      intro i x hx
      rw [Array.getElem?_modify] at hx
      by_cases hij : j = i
      · subst hij
        rw [if_pos rfl, hj] at hx
        simp only [Option.map_some, Option.some.injEq] at hx
        subst hx
        exact ⟨e0, hj, q3.symm, .inl ⟨rfl, rfl⟩⟩
      · rw [if_neg hij] at hx
        exact ⟨x, hx, rfl, .inr ⟨fun h => hij h.symm, rfl⟩⟩
    have hkx : ∃ a, e0.key = f a ∧ m a = some e0.val := h2 e0 (List.mem_of_getElem? q2)
    refine ⟨{ w with heap := w.heap.setIfInBounds b (.map (es.modify j (fun e' => { e' with key := f k, val := v })) clock) }, ?_, ⟨_, clock, (heap_set hb).1, ?_, ?_, ?_, ?_⟩, hchg _⟩
    · simp [Instr.mapUpdate, run_underlying hT, MapKept.run_getObj_map hb, run_checkKey K.und (K.isKey k), run_findKey K.und q1, hj, q3, run_keyThatStays (K.isKey k), MapKept.run_setObj_map _ hb, Result.andThen]
    · intro i i' x y hx hy hk
      obtain ⟨x', hx', ex, _⟩ := hat i x hx
      obtain ⟨y', hy', ey, _⟩ := hat i' y hy
      exact h0 i i' x' y' hx' hy' (by rw [← ex, ← ey, hk])
    · intro x hx
      obtain ⟨i, hi⟩ := List.getElem?_of_mem hx
      rw [Array.getElem?_toList] at hi
      obtain ⟨y, hy, ek, _⟩ := hat i x hi
      rw [ek]
      exact h1 y (List.mem_of_getElem? (by rw [Array.getElem?_toList]; exact hy))
    · intro x hx
      obtain ⟨i, hi⟩ := List.getElem?_of_mem hx
      rw [Array.getElem?_toList] at hi
      obtain ⟨y, hy, ek, h⟩ := hat i x hi
      obtain ⟨a, ha, hm⟩ := h2 y (List.mem_of_getElem? (by rw [Array.getElem?_toList]; exact hy))
      refine ⟨a, ek.trans ha, ?_⟩
      unfold updM
      rcases h with ⟨rfl, hv⟩ | ⟨hne, rfl⟩
      · rw [hj] at hy
        injection hy with hy
        subst hy
        rw [if_pos ((K.eq_iff a k).2 (K.inj a k (ha.symm.trans q3))), hv]
      · rw [if_neg (fun hq => hne (h0 i j x e0 hy hj (by rw [ha, (K.eq_iff a k).1 hq, q3]))), hm]
    · intro a u hu
      have hback : ∀ x, x ∈ es.toList → ∃ x' ∈ (es.modify j (fun e' => { e' with key := f k, val := v })).toList, x'.key = x.key := by
        intro x hx
        obtain ⟨i, hi⟩ := List.getElem?_of_mem hx
        rw [Array.getElem?_toList] at hi
        by_cases hij : j = i
        · subst hij
          rw [hj] at hi
          injection hi with hi
          subst hi
          refine ⟨{ e0 with key := f k, val := v }, List.mem_of_getElem? (i := j) ?_, q3.symm⟩
          rw [Array.getElem?_toList, Array.getElem?_modify, if_pos rfl, hj]
          rfl
        · refine ⟨x, List.mem_of_getElem? (i := i) ?_, rfl⟩
          rw [Array.getElem?_toList, Array.getElem?_modify, if_neg hij]
          exact hi
      unfold updM at hu
      by_cases hq : eqk a k = true
      · obtain ⟨x', hx', hk'⟩ := hback e0 (List.mem_of_getElem? q2)
        exact ⟨x', hx', by rw [hk', q3, (K.eq_iff a k).1 hq]⟩
      · rw [if_neg hq] at hu
        obtain ⟨x, hx, hxk⟩ := h3 a u hu
        obtain ⟨x', hx', hk'⟩ := hback x hx
        exact ⟨x', hx', hk'.trans hxk⟩
end

section
variable {P : Program} (w : World) {ops : Array Oper} {rest : List Oper} {o : Oper} {a : Act} {Q : Exit → Act → World → Prop} {kt e T : TypeId} {d : TypeDesc} {κ : Type} {f : κ → Value} {eqk : κ → κ → Bool} {b : Nat} {m : κ → Option Value}
theorem wpList_lookup_map (hg : o.guard = none) (mo x : Operand) (ok : Bool) (hop : o.op = Op.lookup T mo x ok) (K : KeyK P kt d f eqk) (hT : P.underlying T = some (.map kt e)) {z : Value} (hz : (zeroValue e).run P w = .ok z w)
    (h : MapS w b d f m) (k : κ) (hm : a.eval mo = .map (some b)) (hx : a.eval x = f k) (hK : wpList P ops Q rest (a.put o.dst (if ok = true then .tuple #[(m k).getD z, .bool (m k).isSome] else (m k).getD z)) w) :
    wpList P ops Q (o :: rest) a w := by
  refine wpList_plain hg fun K' hK' => ?_
  have hrun := h.lookup K hT hz k ok
  unfold Oper.wp
  simp [execOp, hop, hm, hx, hrun, Result.andThen]
  exact hK' _ _ (by simpa using hK)
theorem wpList_update_map (hg : o.guard = none) (mo x v : Operand) (hop : o.op = Op.mapUpdate T mo x v) (K : KeyK P kt d f eqk) (hT : P.underlying T = some (.map kt e))
    (h : MapS w b d f m) (k : κ) (val : Value) (hm : a.eval mo = .map (some b)) (hx : a.eval x = f k) (hv : a.eval v = val)
    (hK : ∀ w', MapS w' b d f (updM eqk m k val) → Chg (fun j => j = b) w w' → wpList P ops Q rest (a.put o.dst undef) w') :
    wpList P ops Q (o :: rest) a w := by
  refine wpList_plain hg fun K' hK' => ?_
  obtain ⟨w', hrun, r1, r2⟩ := h.update K hT k val
  unfold Oper.wp
  simp [execOp, hop, hm, hx, hv, hrun, Result.andThen]
  exact hK' _ _ (hK w' r1 r2)
end

theorem keyStr {P : Program} {kt : TypeId} (h : P.underlying kt = some .string) : KeyK P kt .string (fun s : ByteArray => Value.string s) (fun a b => a.toList == b.toList) :=
  ⟨h, fun _ => trivial, fun a b h => by injection h, fun a b => ba_iff a b⟩
theorem keyInt {P : Program} {kt : TypeId} (h : P.underlying kt = some (.int .i64)) : KeyK P kt (.int .i64) (fun n : Int => Value.int .i64 n) (fun a b => a == b) :=
  ⟨h, fun _ => rfl, fun a b h => by injection h, fun a b => by simp⟩
end Go.Proofs.Ytiecbgclkdlpkaa
