/-
  A type that came in as data, read; its text is no longer than sixteen times its bulk. The condition: each text and list is within the reach.
-/
import Derived.Test.YtiecbgclkdlpkaaRead
import Derived.Test.YtiecbgclkdlpkaaOpenK
import Derived.Test.YtiecbgclkdlpkaaKTextA
import Derived.Test.YtiecbgclkdlpkaaRows
namespace Go.Proofs.Ytiecbgclkdlpkaa
open Go.RowKit Go.ChangeShapes Go.WideShapes Go.ChangeAt
set_option linter.unusedVariables false
set_option linter.unusedSimpArgs false
section
variable {H : Type} {enc : TypeId × Value → H} {W : World} {f : Nat} {t : TypeId} {cs : List Value} {x : DataW H × List MemPlace}
theorem longL_sum : ∀ l : List Ty, longL l = (l.map longT).sum
  | [] => rfl
  | t :: r => by simp only [longL, longL_sum r, List.map_cons, List.sum_cons]
theorem bulk_pos (d : DataW H) : 1 ≤ Rows.uptoBulk d := by
  cases d with
  | lit l => cases l <;> simp [Rows.uptoBulk]
  | nil => simp [Rows.uptoBulk]
  | ptr d => simp [Rows.uptoBulk]
  | slice elems spare => simp [Rows.uptoBulk]
  | agg parts => simp [Rows.uptoBulk]
  | iface t d => simp [Rows.uptoBulk]
  | map entries => simp [Rows.uptoBulk]
  | held h => simp [Rows.uptoBulk]
theorem sum_le {α : Type} (ln : α → Nat) (K : Nat) : ∀ (l : List α) (es : List (DataW H × List MemPlace)), l.length = es.length → (∀ i (h : i < l.length) (h' : i < es.length), ln l[i] ≤ K * Rows.uptoBulk es[i].1) → (l.map ln).sum ≤ K * Rows.uptoBulkAll (es.map (·.1))
  | [], es, _, _ => by simp
  | a :: r, [], h, _ => by simp at h
  | a :: r, y :: es, h, hk => by
    have h0 := hk 0 (by simp) (by simp)
    have := sum_le ln K r es (by simpa using h) (fun i h1 h2 => by have := hk (i + 1) (by simpa using h1) (by simpa using h2); simpa using this)
    simp only [List.getElem_cons_zero] at h0
    simp only [List.map_cons, List.sum_cons, Rows.uptoBulkAll, Nat.mul_add]
    omega
theorem bulk_slice (es rs : List (DataW H)) : Rows.uptoBulkAll es ≤ Rows.uptoBulk (.slice es rs) := by simp only [Rows.uptoBulk]; omega
theorem read_str_b (ht : Try.prog.underlying t = some .string) (h : DataW.trod enc Try.prog W 0 (fun _ => true) true f t cs = some x) (hz : Sized t x.1) : ∃ s, Vals W [.str s] cs ∧ s.size + 1 ≤ Rows.uptoBulk x.1 := by
  obtain ⟨s, rfl, hx, hw⟩ := DataW.trod_string ht h
  refine ⟨s, Vals.one (dv_str ?_), ?_⟩
  · subst hx
    have := hz s.data.toList.length (by simp [DataW.weights])
    simpa [reachBytes, Reach] using this
  · subst hx
    simp only [Rows.uptoBulk, Array.length_toList]
    exact Nat.le_refl _
set_option maxRecDepth 100000 in
theorem read_slice_b {α : Type} (dd : α → List D) (ln : α → Nat) (K : Nat) {n : Nat} {e : TypeId} (hc : Try.prog.cellsOf e = n) (hn : 0 < n) (hb : 1 ≤ Try.prog.bytesOf e) (ht : Try.prog.underlying t = some (.slice e))
    (h : DataW.trod enc Try.prog W 0 (fun _ => true) true f t cs = some x) (hz : Sized t x.1)
    (hE : ∀ (f' : Nat) (cs' : List Value) (y : DataW H × List MemPlace), f' < f → DataW.trod enc Try.prog W 0 (fun _ => true) true f' e cs' = some y → Sized e y.1 → ∃ a : α, Vals W (dd a) cs' ∧ ln a ≤ K * Rows.uptoBulk y.1) :
    ∃ l : List α, Vals W [.lst n (l.map dd)] cs ∧ (l.map ln).sum ≤ K * Rows.uptoBulk x.1 := by
  rcases DataW.trod_slice ht h with ⟨rfl, _⟩ | ⟨a, len, cap, elems, rest, m, rfl, rfl, rfl, _, hl, _, hlen, hel, _, _⟩
  · refine ⟨[], Vals.one ?_, Nat.zero_le _⟩
    simp only [DV, List.map_nil, List.length_nil]
    exact ⟨none, 0, rfl, Nat.le_refl _, Nat.zero_le _, by simp only [Elems]⟩
  · have hw := hz ((elems.map (·.1)).length * Try.prog.bytesOf e + (rest.map (·.1)).length * Try.prog.bytesOf e) (by simp only [DataW.weights, ht]; rw [Nat.add_mul]; exact List.mem_cons_self)
    have hreach : len ≤ Reach := by
      have h1 : (elems.map (·.1)).length = len := by simp [hlen]
      rw [h1] at hw
      have h2 : len * 1 ≤ len * Try.prog.bytesOf e := Nat.mul_le_mul_left _ hb
      unfold Reach
      unfold reachBytes at hw
      omega
    have each0 : ∀ i, i < len → ∃ u : α, ∃ cs', W.cells? 0 (a.add (i * n)) n = some cs' ∧ Vals W (dd u) cs' ∧ ∀ y, elems[i]? = some y → ln u ≤ K * Rows.uptoBulk y.1 := by
      intro i hi
      have h0 := hel i hi
      rw [List.getElem?_eq_getElem (show i < elems.length by omega), Option.bind_eq_some_iff] at h0
      obtain ⟨cs', hcs, hy⟩ := h0
      have hzy : Sized e (elems[i]'(by omega)).1 := fun k hk => hz k (by
        simp only [DataW.weights, ht]
        refine List.mem_cons_of_mem _ (List.mem_append_left _ (weights_mem_all ?_ k hk))
        exact List.mem_map_of_mem (List.getElem_mem _))
      have hie : i < elems.length := by rw [hlen]; exact hi
      obtain ⟨u, hu, hub⟩ := hE m cs' _ (Nat.lt_succ_self _) hy hzy
      exact ⟨u, cs', by rw [← hc]; exact hcs, hu, fun y hy' => by have e1 := (List.getElem?_eq_getElem hie).symm.trans hy'; injection e1 with e1; rw [← e1]; exact hub⟩
    by_cases h0 : len = 0
    · subst h0
      refine ⟨[], Vals.one ?_, Nat.zero_le _⟩
      simp only [DV, List.map_nil, List.length_nil]
      exact ⟨some a, cap, rfl, Nat.zero_le _, Nat.zero_le _, by simp only [Elems]⟩
    · have hsp : a.spot = none := by
        obtain ⟨u, cs', hcs, _, _⟩ := each0 0 (by omega)
        obtain ⟨hcl, hcell⟩ := cells_of hcs
        have := hcell 0 (cs'[0]'(by omega)) (List.getElem?_eq_getElem _)
        rw [Nat.zero_mul, show ∀ x : Addr, x.add 0 = x from fun x => by simp [Addr.add], show ∀ x : Addr, x.add 0 = x from fun x => by simp [Addr.add]] at this
        exact spot_none this
      obtain ⟨b, o, sp⟩ := a
      obtain rfl : sp = none := hsp
      obtain ⟨l, hll, hlk⟩ := list_of (R := fun i u => Cells W (dd u) b (o + i * n) ∧ ∀ y, elems[i]? = some y → ln u ≤ K * Rows.uptoBulk y.1) len (fun i hi => by
        obtain ⟨u, cs', hcs, hu, hub⟩ := each0 i hi
        obtain ⟨hcl, hcell⟩ := cells_of hcs
        refine ⟨u, Vals.cells hu fun j v hj => ?_, hub⟩
        have := hcell j v hj
        rwa [add_none, add_none] at this)
      refine ⟨l, Vals.one ?_, ?_⟩
      case refine_2 =>
        have := sum_le ln K l elems (by omega) (fun i h h' => (hlk i h).2 _ (List.getElem?_eq_getElem h'))
        refine Nat.le_trans this (Nat.mul_le_mul_left _ ?_)
        exact bulk_slice _ _
      simp only [DV, List.length_map]
      refine ⟨some ⟨b, o, none⟩, cap, by rw [hll], by omega, by omega, Elems.mk fun k hk => ?_⟩
      rw [List.getElem_map]
      exact (hlk k (by simpa using hk)).1

set_option maxRecDepth 100000 in
theorem readTyB : ∀ (f : Nat) (cs : List Value) (x : DataW H × List MemPlace), DataW.trod enc Try.prog W 0 (fun _ => true) true f 26 cs = some x → Sized 26 x.1 → ∃ t : Ty, Vals W t.d cs ∧ longT t ≤ 16 * Rows.uptoBulk x.1 := by
  intro f
  induction f using Nat.strongRecOn with | _ f ih =>
  intro cs x h hz
  obtain ⟨xs, n, rfl, rfl, hl, hxl, hf⟩ := DataW.trod_struct Try.underlying26 h
  have hl : cs.length = 5 := hl.trans (by kernel_rfl)
  have hxl : xs.length = 5 := hxl
  obtain ⟨v0, v1, v2, v3, v4, rfl⟩ : ∃ v0 v1 v2 v3 v4, cs = [v0, v1, v2, v3, v4] := by
    match cs, hl with
    | [v0, v1, v2, v3, v4], _ => exact ⟨v0, v1, v2, v3, v4, rfl⟩
  obtain ⟨x0, x1, x2, x3, x4, rfl⟩ : ∃ x0 x1 x2 x3 x4, xs = [x0, x1, x2, x3, x4] := by
    match xs, hxl with
    | [x0, x1, x2, x3, x4], _ => exact ⟨x0, x1, x2, x3, x4, rfl⟩
  have h0 := part_of hf 0 rfl rfl rfl 1 (by kernel_rfl) rfl [v0] rfl
  have z0 := hz.part Try.underlying26 0 rfl rfl
  obtain ⟨u0, k0⟩ := read_num (by kernel_rfl) h0
  have h1 := part_of hf 1 rfl rfl rfl 1 (by kernel_rfl) rfl [v1] rfl
  have z1 := hz.part Try.underlying26 1 rfl rfl
  obtain ⟨u1, k1, l1⟩ := read_str_b (by kernel_rfl) h1 z1
  have h2 := part_of hf 2 rfl rfl rfl 1 (by kernel_rfl) rfl [v2] rfl
  have z2 := hz.part Try.underlying26 2 rfl rfl
  obtain ⟨u2, k2, l2⟩ := read_str_b (by kernel_rfl) h2 z2
  have h3 := part_of hf 3 rfl rfl rfl 1 (by kernel_rfl) rfl [v3] rfl
  have z3 := hz.part Try.underlying26 3 rfl rfl
  obtain ⟨u3, k3, l3⟩ := read_slice_b Ty.d longT 16 (e := 26) (n := 5) (by kernel_rfl) (by decide) (of_decide_eq_true (by kernel_rfl)) (by kernel_rfl) h3 z3 (fun f' cs' y hlt hy hzy => ih f' (by omega) cs' y hy hzy)
  rw [← Ty.ds_map] at k3
  have h4 := part_of hf 4 rfl rfl rfl 1 (by kernel_rfl) rfl [v4] rfl
  have z4 := hz.part Try.underlying26 4 rfl rfl
  obtain ⟨u4, k4, l4⟩ := read_slice_b Ty.d longT 16 (e := 26) (n := 5) (by kernel_rfl) (by decide) (of_decide_eq_true (by kernel_rfl)) (by kernel_rfl) h4 z4 (fun f' cs' y hlt hy hzy => ih f' (by omega) cs' y hy hzy)
  rw [← Ty.ds_map] at k4
  refine ⟨Ty.mk u0 u1 u2 u3 u4, ?_, ?_⟩
  · rw [Ty.d_parts]
    exact (Vals.app k0 (Vals.app k1 (Vals.app k2 (Vals.app k3 k4))))
  · simp only [longT, longL_sum, List.map_cons, List.map_nil, Rows.uptoBulk, Rows.uptoBulkAll]
    have := bulk_pos x0.1
    omega


variable {base : Nat} {v : Value} {d : DataW H} {p : List MemPlace}
set_option maxRecDepth 100000 in
theorem open_ty_b (hv : Value.okWide Try.prog W .any base 26 v) (h0 : DataW.Trod enc Try.prog W 0 (fun _ => true) true 26 v d p) (hz : Sized 26 d) : ∃ (t : Ty) (vs : List Value), v = .agg vs.toArray ∧ Vals W t.d vs ∧ longT t ≤ 16 * Rows.uptoBulk d := by
  obtain ⟨cs, rfl, _⟩ := okWide_struct Try.underlying26 hv
  obtain ⟨fuel, hf⟩ := h0
  rw [show (Value.agg cs).cells = cs from rfl] at hf
  obtain ⟨u, hu, hl⟩ := readTyB fuel _ _ hf hz
  exact ⟨u, cs.toList, by rw [Array.toArray_toList], hu, hl⟩
end
end Go.Proofs.Ytiecbgclkdlpkaa
