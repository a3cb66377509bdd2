/-
  What comes in as data, read as the plain types. The condition: each text and list is within the reach.
-/
import Derived.Test.YtiecbgclkdlpkaaData
import Derived.Test.YtiecbgclkdlpkaaProg
import Derived.ChangeArms
import Derived.SizedLaws
import Derived.DataReads
namespace Go.Proofs.Ytiecbgclkdlpkaa
open Go.RowKit
set_option linter.unusedVariables false
set_option linter.unusedSimpArgs false

theorem Vals.app {w : World} : ∀ {l m : List D} {vs us : List Value}, Vals w l vs → Vals w m us → Vals w (l ++ m) (vs ++ us)
  | [], m, vs, us, h, k => by rw [show vs = [] from h]; exact k
  | d :: l, m, vs, us, ⟨v, r, e, hd, hr⟩, k => by subst e; exact ⟨v, r ++ us, rfl, hd, Vals.app hr k⟩
theorem Vals.one {w : World} {d : D} {v : Value} (h : DV w d v) : Vals w [d] [v] := ⟨v, [], rfl, h, rfl⟩

theorem spot_none {w : World} {a : Addr} {v : Value} (h : w.cell? a = some v) : a.spot = none := by
  unfold World.cell? at h
  split at h
  · split at h
    · cases h
    · rename_i hs
      cases hq : a.spot with
      | none => rfl
      | some s => rw [hq] at hs; exact absurd rfl hs
  · cases h

theorem cells_of {w : World} {a : Addr} {n : Nat} {cs : List Value} (h : w.cells? 0 a n = some cs) : cs.length = n ∧ ∀ (j : Nat) (v : Value), cs[j]? = some v → w.cell? (a.add j) = some v := by
  unfold World.cells? at h
  rw [if_pos (Nat.zero_le _)] at h
  have hl : cs.length = n := by have := mapM_some_length h; simpa using this
  refine ⟨hl, fun j v hj => ?_⟩
  have hjl := (List.getElem?_eq_some_iff.1 hj).1
  have := mapM_some_get h j j (by rw [List.getElem?_range (by omega)])
  rw [this, hj]
theorem add_none (b o k : Nat) : (⟨b, o, none⟩ : Addr).add k = ⟨b, o + k, none⟩ := by unfold Addr.add; split <;> simp_all
/-- As many as are asked, each with what it must have. -/
theorem list_of {α : Type} {R : Nat → α → Prop} : ∀ (n : Nat), (∀ i, i < n → ∃ a, R i a) → ∃ l : List α, l.length = n ∧ ∀ i (h : i < l.length), R i l[i]
  | 0, _ => ⟨[], rfl, fun i h => absurd h (by simp)⟩
  | n + 1, h => by
    obtain ⟨l, hl, hr⟩ := list_of n (fun i hi => h i (by omega))
    obtain ⟨a, ha⟩ := h n (by omega)
    refine ⟨l ++ [a], by simp [hl], fun i hi => ?_⟩
    by_cases e : i < l.length
    · rw [List.getElem_append_left e]; exact hr i e
    · have e' : i = n := by simp at hi; omega
      subst e'
      rw [List.getElem_append_right (by omega)]
      simpa [hl] using ha

section
variable {H : Type} {enc : TypeId × Value → H} {W : World} {f : Nat} {t : TypeId} {cs : List Value} {x : DataW H × List MemPlace}

/-- Each text and list in it is within the reach. -/
def Sized (t : TypeId) (d : DataW H) : Prop := ∀ n ∈ d.weights Try.prog t, n ≤ reachBytes

theorem Sized.part {fs : Array Field} {t t' : TypeId} {ds : List (DataW H)} {d : DataW H} (hu : Try.prog.underlying t = some (.struct fs)) (h : Sized t (.agg ds)) (j : Nat) (ht : (fs.toList.map (·.type))[j]? = some t') (hd : ds[j]? = some d) : Sized t' d := by
  intro n hn
  refine h n ?_
  simp only [DataW.weights, hu]
  exact DataW.weights_mem_each ht hd n hn
theorem weights_mem_all {P : Program} {e : TypeId} : ∀ {ds : List (DataW H)} {d : DataW H}, d ∈ ds → ∀ n ∈ d.weights P e, n ∈ DataW.weightsAll P e ds
  | c :: r, d, h, n, hn => by
    simp only [DataW.weightsAll, List.mem_append]
    rcases List.mem_cons.1 h with e | e
    · subst e; exact .inl hn
    · exact .inr (weights_mem_all e n hn)

theorem part_of {fs : Array Field} {xs : List (DataW H × List MemPlace)} {n : Nat} (hf : ∀ (i : Nat) (f : Field), fs[i]? = some f → DataW.trod enc Try.prog W 0 (fun _ => true) true n f.type ((cs.drop f.offset).take (Try.prog.cellsOf f.type)) = xs[i]?)
    (i : Nat) {f : Field} (hi : fs[i]? = some f) {ty : TypeId} {o : Nat} (h1 : f.type = ty) (h2 : f.offset = o) (k : Nat) (h3 : Try.prog.cellsOf ty = k) {y : DataW H × List MemPlace} (hx : xs[i]? = some y) (c : List Value) (hc : (cs.drop o).take k = c) :
    DataW.trod enc Try.prog W 0 (fun _ => true) true n ty c = some y := by
  subst h1 h2 h3 hc
  rw [hf i f hi, hx]

theorem read_num (ht : Try.prog.underlying t = some (.int .i64)) (h : DataW.trod enc Try.prog W 0 (fun _ => true) true f t cs = some x) : ∃ n, Vals W [.num n] cs := by
  obtain ⟨n, rfl, _, hw⟩ := DataW.trod_int ht h
  refine ⟨n, Vals.one (dv_num ?_)⟩
  have := hw
  simp [Lit.wf, IntKind.min, IntKind.max, IntKind.signed, IntKind.bits] at this
  unfold In64
  omega
theorem read_boo (ht : Try.prog.underlying t = some .bool) (h : DataW.trod enc Try.prog W 0 (fun _ => true) true f t cs = some x) : ∃ b, Vals W [.boo b] cs := by
  obtain ⟨b, rfl, _⟩ := DataW.trod_bool ht h
  exact ⟨b, Vals.one (dv_boo _ _)⟩
theorem read_str (ht : Try.prog.underlying t = some .string) (h : DataW.trod enc Try.prog W 0 (fun _ => true) true f t cs = some x) (hz : Sized t x.1) : ∃ s, Vals W [.str s] cs := by
  obtain ⟨s, rfl, hx, hw⟩ := DataW.trod_string ht h
  refine ⟨s, Vals.one (dv_str ?_)⟩
  subst hx
  have := hz s.data.toList.length (by simp [DataW.weights])
  simpa [reachBytes, Reach] using this

theorem read_slice {α : Type} (dd : α → List D) {n : Nat} {e : TypeId} (hc : Try.prog.cellsOf e = n) (hn : 0 < n) (hb : 1 ≤ Try.prog.bytesOf e) (ht : Try.prog.underlying t = some (.slice e))
    (h : DataW.trod enc Try.prog W 0 (fun _ => true) true f t cs = some x) (hz : Sized t x.1)
    (hE : ∀ (f' : Nat) (cs' : List Value) (y : DataW H × List MemPlace), f' < f → DataW.trod enc Try.prog W 0 (fun _ => true) true f' e cs' = some y → Sized e y.1 → ∃ a : α, Vals W (dd a) cs') :
    ∃ l : List α, Vals W [.lst n (l.map dd)] cs := by
  rcases DataW.trod_slice ht h with ⟨rfl, _⟩ | ⟨a, len, cap, elems, rest, m, rfl, rfl, rfl, _, hl, _, hlen, hel, _, _⟩
  · refine ⟨[], Vals.one ?_⟩
    simp only [DV, List.map_nil, List.length_nil]
    exact ⟨none, 0, rfl, Nat.le_refl _, Nat.zero_le _, by simp only [Elems]⟩
  · have hw := hz ((elems.map (·.1)).length * Try.prog.bytesOf e + (rest.map (·.1)).length * Try.prog.bytesOf e) (by simp only [DataW.weights, ht]; rw [Nat.add_mul]; exact List.mem_cons_self)
    have hreach : len ≤ Reach := by
      have h1 : (elems.map (·.1)).length = len := by simp [hlen]
      rw [h1] at hw
      have h2 : len * 1 ≤ len * Try.prog.bytesOf e := Nat.mul_le_mul_left _ hb
      unfold Reach
      unfold reachBytes at hw
      omega
    have each0 : ∀ i, i < len → ∃ u : α, ∃ cs', W.cells? 0 (a.add (i * n)) n = some cs' ∧ Vals W (dd u) cs' := by
      intro i hi
      have h0 := hel i hi
      rw [List.getElem?_eq_getElem (show i < elems.length by omega), Option.bind_eq_some_iff] at h0
      obtain ⟨cs', hcs, hy⟩ := h0
      have hzy : Sized e (elems[i]'(by omega)).1 := fun k hk => hz k (by
        simp only [DataW.weights, ht]
        refine List.mem_cons_of_mem _ (List.mem_append_left _ (weights_mem_all ?_ k hk))
        exact List.mem_map_of_mem (List.getElem_mem _))
      obtain ⟨u, hu⟩ := hE m cs' _ (Nat.lt_succ_self _) hy hzy
      exact ⟨u, cs', by rw [← hc]; exact hcs, hu⟩
    by_cases h0 : len = 0
    · subst h0
      refine ⟨[], Vals.one ?_⟩
      simp only [DV, List.map_nil, List.length_nil]
      exact ⟨some a, cap, rfl, Nat.zero_le _, Nat.zero_le _, by simp only [Elems]⟩
    · have hsp : a.spot = none := by
        obtain ⟨u, cs', hcs, _⟩ := each0 0 (by omega)
        obtain ⟨hcl, hcell⟩ := cells_of hcs
        have := hcell 0 (cs'[0]'(by omega)) (List.getElem?_eq_getElem _)
        rw [Nat.zero_mul, show ∀ x : Addr, x.add 0 = x from fun x => by simp [Addr.add], show ∀ x : Addr, x.add 0 = x from fun x => by simp [Addr.add]] at this
        exact spot_none this
      obtain ⟨b, o, sp⟩ := a
      obtain rfl : sp = none := hsp
      obtain ⟨l, hll, hlk⟩ := list_of (R := fun i u => Cells W (dd u) b (o + i * n)) len (fun i hi => by
        obtain ⟨u, cs', hcs, hu⟩ := each0 i hi
        obtain ⟨hcl, hcell⟩ := cells_of hcs
        refine ⟨u, Vals.cells hu fun j v hj => ?_⟩
        have := hcell j v hj
        rwa [add_none, add_none] at this)
      refine ⟨l, Vals.one ?_⟩
      simp only [DV, List.length_map]
      refine ⟨some ⟨b, o, none⟩, cap, by rw [hll], by omega, by omega, Elems.mk fun k hk => ?_⟩
      rw [List.getElem_map]
      exact hlk k (by simpa using hk)

theorem Ty.ds_map : ∀ l : List Ty, Ty.ds l = l.map Ty.d
  | [] => by simp [Ty.ds]
  | t :: r => by simp [Ty.ds, Ty.ds_map r]
theorem Ty.d_parts (t : Ty) : t.d = [D.num t.kind] ++ ([D.str t.pkg] ++ ([D.str t.name] ++ ([D.lst 5 (Ty.ds t.args)] ++ [D.lst 5 (Ty.ds t.res)]))) := by
  cases t with | mk x0 x1 x2 x3 x4 =>
  rfl
set_option maxRecDepth 100000 in
theorem readTy : ∀ (f : Nat) (cs : List Value) (x : DataW H × List MemPlace), DataW.trod enc Try.prog W 0 (fun _ => true) true f 26 cs = some x → Sized 26 x.1 → ∃ t : Ty, Vals W t.d cs := by
  intro f
  induction f using Nat.strongRecOn with | _ f ih =>
  intro cs x h hz
  obtain ⟨xs, n, rfl, rfl, hl, hxl, hf⟩ := DataW.trod_struct Try.underlying26 h
  have hl : cs.length = 5 := hl.trans (by kernel_rfl)
  have hxl : xs.length = 5 := hxl
  obtain ⟨v0, v1, v2, v3, v4, rfl⟩ : ∃ v0 v1 v2 v3 v4, cs = [v0, v1, v2, v3, v4] := by
    match cs, hl with
    | [v0, v1, v2, v3, v4], _ => exact ⟨v0, v1, v2, v3, v4, rfl⟩
  obtain ⟨x0, x1, x2, x3, x4, rfl⟩ : ∃ x0 x1 x2 x3 x4, xs = [x0, x1, x2, x3, x4] := by
    match xs, hxl with
    | [x0, x1, x2, x3, x4], _ => exact ⟨x0, x1, x2, x3, x4, rfl⟩
  have h0 := part_of hf 0 rfl rfl rfl 1 (by kernel_rfl) rfl [v0] rfl
  have z0 := hz.part Try.underlying26 0 rfl rfl
  obtain ⟨u0, k0⟩ := read_num (by kernel_rfl) h0
  have h1 := part_of hf 1 rfl rfl rfl 1 (by kernel_rfl) rfl [v1] rfl
  have z1 := hz.part Try.underlying26 1 rfl rfl
  obtain ⟨u1, k1⟩ := read_str (by kernel_rfl) h1 z1
  have h2 := part_of hf 2 rfl rfl rfl 1 (by kernel_rfl) rfl [v2] rfl
  have z2 := hz.part Try.underlying26 2 rfl rfl
  obtain ⟨u2, k2⟩ := read_str (by kernel_rfl) h2 z2
  have h3 := part_of hf 3 rfl rfl rfl 1 (by kernel_rfl) rfl [v3] rfl
  have z3 := hz.part Try.underlying26 3 rfl rfl
  obtain ⟨u3, k3⟩ := read_slice Ty.d (e := 26) (n := 5) (by kernel_rfl) (by decide) (of_decide_eq_true (by kernel_rfl)) (by kernel_rfl) h3 z3 (fun f' cs' y hlt hy hzy => ih f' (by omega) cs' y hy hzy)
  rw [← Ty.ds_map] at k3
  have h4 := part_of hf 4 rfl rfl rfl 1 (by kernel_rfl) rfl [v4] rfl
  have z4 := hz.part Try.underlying26 4 rfl rfl
  obtain ⟨u4, k4⟩ := read_slice Ty.d (e := 26) (n := 5) (by kernel_rfl) (by decide) (of_decide_eq_true (by kernel_rfl)) (by kernel_rfl) h4 z4 (fun f' cs' y hlt hy hzy => ih f' (by omega) cs' y hy hzy)
  rw [← Ty.ds_map] at k4
  refine ⟨Ty.mk u0 u1 u2 u3 u4, ?_⟩
  rw [Ty.d_parts]
  exact (Vals.app k0 (Vals.app k1 (Vals.app k2 (Vals.app k3 k4))))

theorem Fld.ds_map : ∀ l : List Fld, Fld.ds l = l.map Fld.d
  | [] => by simp [Fld.ds]
  | t :: r => by simp [Fld.ds, Fld.ds_map r]
theorem Fld.d_parts (t : Fld) : t.d = [D.str t.name] ++ Ty.d t.type := by
  cases t with | mk x0 x1 =>
  cases x1
  rfl
set_option maxRecDepth 100000 in
theorem readFld : ∀ (f : Nat) (cs : List Value) (x : DataW H × List MemPlace), DataW.trod enc Try.prog W 0 (fun _ => true) true f 56 cs = some x → Sized 56 x.1 → ∃ t : Fld, Vals W t.d cs := by
  intro f
  induction f using Nat.strongRecOn with | _ f ih =>
  intro cs x h hz
  obtain ⟨xs, n, rfl, rfl, hl, hxl, hf⟩ := DataW.trod_struct Try.underlying56 h
  have hl : cs.length = 6 := hl.trans (by kernel_rfl)
  have hxl : xs.length = 2 := hxl
  obtain ⟨v0, v1, v2, v3, v4, v5, rfl⟩ : ∃ v0 v1 v2 v3 v4 v5, cs = [v0, v1, v2, v3, v4, v5] := by
    match cs, hl with
    | [v0, v1, v2, v3, v4, v5], _ => exact ⟨v0, v1, v2, v3, v4, v5, rfl⟩
  obtain ⟨x0, x1, rfl⟩ : ∃ x0 x1, xs = [x0, x1] := by
    match xs, hxl with
    | [x0, x1], _ => exact ⟨x0, x1, rfl⟩
  have h0 := part_of hf 0 rfl rfl rfl 1 (by kernel_rfl) rfl [v0] rfl
  have z0 := hz.part Try.underlying56 0 rfl rfl
  obtain ⟨u0, k0⟩ := read_str (by kernel_rfl) h0 z0
  have h1 := part_of hf 1 rfl rfl rfl 5 (by kernel_rfl) rfl [v1, v2, v3, v4, v5] rfl
  have z1 := hz.part Try.underlying56 1 rfl rfl
  obtain ⟨u1, k1⟩ := readTy _ _ _ h1 z1
  refine ⟨Fld.mk u0 u1, ?_⟩
  rw [Fld.d_parts]
  exact (Vals.app k0 k1)

theorem Dcl.ds_map : ∀ l : List Dcl, Dcl.ds l = l.map Dcl.d
  | [] => by simp [Dcl.ds]
  | t :: r => by simp [Dcl.ds, Dcl.ds_map r]
theorem Dcl.d_parts (t : Dcl) : t.d = [D.num t.kind] ++ ([D.str t.name] ++ ([D.str t.of] ++ ([D.num t.value] ++ (Ty.d t.type ++ [D.lst 6 (Fld.ds t.fields)])))) := by
  cases t with | mk x0 x1 x2 x3 x4 x5 =>
  cases x4
  rfl
set_option maxRecDepth 100000 in
theorem readDcl : ∀ (f : Nat) (cs : List Value) (x : DataW H × List MemPlace), DataW.trod enc Try.prog W 0 (fun _ => true) true f 46 cs = some x → Sized 46 x.1 → ∃ t : Dcl, Vals W t.d cs := by
  intro f
  induction f using Nat.strongRecOn with | _ f ih =>
  intro cs x h hz
  obtain ⟨xs, n, rfl, rfl, hl, hxl, hf⟩ := DataW.trod_struct Try.underlying46 h
  have hl : cs.length = 10 := hl.trans (by kernel_rfl)
  have hxl : xs.length = 6 := hxl
  obtain ⟨v0, v1, v2, v3, v4, v5, v6, v7, v8, v9, rfl⟩ : ∃ v0 v1 v2 v3 v4 v5 v6 v7 v8 v9, cs = [v0, v1, v2, v3, v4, v5, v6, v7, v8, v9] := by
    match cs, hl with
    | [v0, v1, v2, v3, v4, v5, v6, v7, v8, v9], _ => exact ⟨v0, v1, v2, v3, v4, v5, v6, v7, v8, v9, rfl⟩
  obtain ⟨x0, x1, x2, x3, x4, x5, rfl⟩ : ∃ x0 x1 x2 x3 x4 x5, xs = [x0, x1, x2, x3, x4, x5] := by
    match xs, hxl with
    | [x0, x1, x2, x3, x4, x5], _ => exact ⟨x0, x1, x2, x3, x4, x5, rfl⟩
  have h0 := part_of hf 0 rfl rfl rfl 1 (by kernel_rfl) rfl [v0] rfl
  have z0 := hz.part Try.underlying46 0 rfl rfl
  obtain ⟨u0, k0⟩ := read_num (by kernel_rfl) h0
  have h1 := part_of hf 1 rfl rfl rfl 1 (by kernel_rfl) rfl [v1] rfl
  have z1 := hz.part Try.underlying46 1 rfl rfl
  obtain ⟨u1, k1⟩ := read_str (by kernel_rfl) h1 z1
  have h2 := part_of hf 2 rfl rfl rfl 1 (by kernel_rfl) rfl [v2] rfl
  have z2 := hz.part Try.underlying46 2 rfl rfl
  obtain ⟨u2, k2⟩ := read_str (by kernel_rfl) h2 z2
  have h3 := part_of hf 3 rfl rfl rfl 1 (by kernel_rfl) rfl [v3] rfl
  have z3 := hz.part Try.underlying46 3 rfl rfl
  obtain ⟨u3, k3⟩ := read_num (by kernel_rfl) h3
  have h4 := part_of hf 4 rfl rfl rfl 5 (by kernel_rfl) rfl [v4, v5, v6, v7, v8] rfl
  have z4 := hz.part Try.underlying46 4 rfl rfl
  obtain ⟨u4, k4⟩ := readTy _ _ _ h4 z4
  have h5 := part_of hf 5 rfl rfl rfl 1 (by kernel_rfl) rfl [v9] rfl
  have z5 := hz.part Try.underlying46 5 rfl rfl
  obtain ⟨u5, k5⟩ := read_slice Fld.d (e := 56) (n := 6) (by kernel_rfl) (by decide) (of_decide_eq_true (by kernel_rfl)) (by kernel_rfl) h5 z5 (fun f' cs' y hlt hy hzy => readFld f' cs' y hy hzy)
  rw [← Fld.ds_map] at k5
  refine ⟨Dcl.mk u0 u1 u2 u3 u4 u5, ?_⟩
  rw [Dcl.d_parts]
  exact (Vals.app k0 (Vals.app k1 (Vals.app k2 (Vals.app k3 (Vals.app k4 k5)))))

theorem Imp.ds_map : ∀ l : List Imp, Imp.ds l = l.map Imp.d
  | [] => by simp [Imp.ds]
  | t :: r => by simp [Imp.ds, Imp.ds_map r]
theorem Imp.d_parts (t : Imp) : t.d = [D.str t.name] ++ [D.num t.hash] := by
  cases t with | mk x0 x1 =>
  rfl
set_option maxRecDepth 100000 in
theorem readImp : ∀ (f : Nat) (cs : List Value) (x : DataW H × List MemPlace), DataW.trod enc Try.prog W 0 (fun _ => true) true f 135 cs = some x → Sized 135 x.1 → ∃ t : Imp, Vals W t.d cs := by
  intro f
  induction f using Nat.strongRecOn with | _ f ih =>
  intro cs x h hz
  obtain ⟨xs, n, rfl, rfl, hl, hxl, hf⟩ := DataW.trod_struct Try.underlying135 h
  have hl : cs.length = 2 := hl.trans (by kernel_rfl)
  have hxl : xs.length = 2 := hxl
  obtain ⟨v0, v1, rfl⟩ : ∃ v0 v1, cs = [v0, v1] := by
    match cs, hl with
    | [v0, v1], _ => exact ⟨v0, v1, rfl⟩
  obtain ⟨x0, x1, rfl⟩ : ∃ x0 x1, xs = [x0, x1] := by
    match xs, hxl with
    | [x0, x1], _ => exact ⟨x0, x1, rfl⟩
  have h0 := part_of hf 0 rfl rfl rfl 1 (by kernel_rfl) rfl [v0] rfl
  have z0 := hz.part Try.underlying135 0 rfl rfl
  obtain ⟨u0, k0⟩ := read_str (by kernel_rfl) h0 z0
  have h1 := part_of hf 1 rfl rfl rfl 1 (by kernel_rfl) rfl [v1] rfl
  have z1 := hz.part Try.underlying135 1 rfl rfl
  obtain ⟨u1, k1⟩ := read_num (by kernel_rfl) h1
  refine ⟨Imp.mk u0 u1, ?_⟩
  rw [Imp.d_parts]
  exact (Vals.app k0 k1)

theorem Ex.ds_map : ∀ l : List Ex, Ex.ds l = l.map Ex.d
  | [] => by simp [Ex.ds]
  | t :: r => by simp [Ex.ds, Ex.ds_map r]
theorem Ex.d_parts (t : Ex) : t.d = [D.num t.op] ++ ([D.num t.n] ++ ([D.str t.name] ++ [D.lst 4 (Ex.ds t.kids)])) := by
  cases t with | mk x0 x1 x2 x3 =>
  rfl
set_option maxRecDepth 100000 in
theorem readEx : ∀ (f : Nat) (cs : List Value) (x : DataW H × List MemPlace), DataW.trod enc Try.prog W 0 (fun _ => true) true f 115 cs = some x → Sized 115 x.1 → ∃ t : Ex, Vals W t.d cs := by
  intro f
  induction f using Nat.strongRecOn with | _ f ih =>
  intro cs x h hz
  obtain ⟨xs, n, rfl, rfl, hl, hxl, hf⟩ := DataW.trod_struct Try.underlying115 h
  have hl : cs.length = 4 := hl.trans (by kernel_rfl)
  have hxl : xs.length = 4 := hxl
  obtain ⟨v0, v1, v2, v3, rfl⟩ : ∃ v0 v1 v2 v3, cs = [v0, v1, v2, v3] := by
    match cs, hl with
    | [v0, v1, v2, v3], _ => exact ⟨v0, v1, v2, v3, rfl⟩
  obtain ⟨x0, x1, x2, x3, rfl⟩ : ∃ x0 x1 x2 x3, xs = [x0, x1, x2, x3] := by
    match xs, hxl with
    | [x0, x1, x2, x3], _ => exact ⟨x0, x1, x2, x3, rfl⟩
  have h0 := part_of hf 0 rfl rfl rfl 1 (by kernel_rfl) rfl [v0] rfl
  have z0 := hz.part Try.underlying115 0 rfl rfl
  obtain ⟨u0, k0⟩ := read_num (by kernel_rfl) h0
  have h1 := part_of hf 1 rfl rfl rfl 1 (by kernel_rfl) rfl [v1] rfl
  have z1 := hz.part Try.underlying115 1 rfl rfl
  obtain ⟨u1, k1⟩ := read_num (by kernel_rfl) h1
  have h2 := part_of hf 2 rfl rfl rfl 1 (by kernel_rfl) rfl [v2] rfl
  have z2 := hz.part Try.underlying115 2 rfl rfl
  obtain ⟨u2, k2⟩ := read_str (by kernel_rfl) h2 z2
  have h3 := part_of hf 3 rfl rfl rfl 1 (by kernel_rfl) rfl [v3] rfl
  have z3 := hz.part Try.underlying115 3 rfl rfl
  obtain ⟨u3, k3⟩ := read_slice Ex.d (e := 115) (n := 4) (by kernel_rfl) (by decide) (of_decide_eq_true (by kernel_rfl)) (by kernel_rfl) h3 z3 (fun f' cs' y hlt hy hzy => ih f' (by omega) cs' y hy hzy)
  rw [← Ex.ds_map] at k3
  refine ⟨Ex.mk u0 u1 u2 u3, ?_⟩
  rw [Ex.d_parts]
  exact (Vals.app k0 (Vals.app k1 (Vals.app k2 k3)))

theorem St.ds_map : ∀ l : List St, St.ds l = l.map St.d
  | [] => by simp [St.ds]
  | t :: r => by simp [St.ds, St.ds_map r]
theorem St.d_parts (t : St) : t.d = [D.num t.op] ++ ([D.num t.n] ++ ([D.lst 4 (Ex.ds t.exprs)] ++ ([D.lst 5 (St.ds t.body)] ++ [D.lst 5 (St.ds t.els)]))) := by
  cases t with | mk x0 x1 x2 x3 x4 =>
  rfl
set_option maxRecDepth 100000 in
theorem readSt : ∀ (f : Nat) (cs : List Value) (x : DataW H × List MemPlace), DataW.trod enc Try.prog W 0 (fun _ => true) true f 110 cs = some x → Sized 110 x.1 → ∃ t : St, Vals W t.d cs := by
  intro f
  induction f using Nat.strongRecOn with | _ f ih =>
  intro cs x h hz
  obtain ⟨xs, n, rfl, rfl, hl, hxl, hf⟩ := DataW.trod_struct Try.underlying110 h
  have hl : cs.length = 5 := hl.trans (by kernel_rfl)
  have hxl : xs.length = 5 := hxl
  obtain ⟨v0, v1, v2, v3, v4, rfl⟩ : ∃ v0 v1 v2 v3 v4, cs = [v0, v1, v2, v3, v4] := by
    match cs, hl with
    | [v0, v1, v2, v3, v4], _ => exact ⟨v0, v1, v2, v3, v4, rfl⟩
  obtain ⟨x0, x1, x2, x3, x4, rfl⟩ : ∃ x0 x1 x2 x3 x4, xs = [x0, x1, x2, x3, x4] := by
    match xs, hxl with
    | [x0, x1, x2, x3, x4], _ => exact ⟨x0, x1, x2, x3, x4, rfl⟩
  have h0 := part_of hf 0 rfl rfl rfl 1 (by kernel_rfl) rfl [v0] rfl
  have z0 := hz.part Try.underlying110 0 rfl rfl
  obtain ⟨u0, k0⟩ := read_num (by kernel_rfl) h0
  have h1 := part_of hf 1 rfl rfl rfl 1 (by kernel_rfl) rfl [v1] rfl
  have z1 := hz.part Try.underlying110 1 rfl rfl
  obtain ⟨u1, k1⟩ := read_num (by kernel_rfl) h1
  have h2 := part_of hf 2 rfl rfl rfl 1 (by kernel_rfl) rfl [v2] rfl
  have z2 := hz.part Try.underlying110 2 rfl rfl
  obtain ⟨u2, k2⟩ := read_slice Ex.d (e := 115) (n := 4) (by kernel_rfl) (by decide) (of_decide_eq_true (by kernel_rfl)) (by kernel_rfl) h2 z2 (fun f' cs' y hlt hy hzy => readEx f' cs' y hy hzy)
  rw [← Ex.ds_map] at k2
  have h3 := part_of hf 3 rfl rfl rfl 1 (by kernel_rfl) rfl [v3] rfl
  have z3 := hz.part Try.underlying110 3 rfl rfl
  obtain ⟨u3, k3⟩ := read_slice St.d (e := 110) (n := 5) (by kernel_rfl) (by decide) (of_decide_eq_true (by kernel_rfl)) (by kernel_rfl) h3 z3 (fun f' cs' y hlt hy hzy => ih f' (by omega) cs' y hy hzy)
  rw [← St.ds_map] at k3
  have h4 := part_of hf 4 rfl rfl rfl 1 (by kernel_rfl) rfl [v4] rfl
  have z4 := hz.part Try.underlying110 4 rfl rfl
  obtain ⟨u4, k4⟩ := read_slice St.d (e := 110) (n := 5) (by kernel_rfl) (by decide) (of_decide_eq_true (by kernel_rfl)) (by kernel_rfl) h4 z4 (fun f' cs' y hlt hy hzy => ih f' (by omega) cs' y hy hzy)
  rw [← St.ds_map] at k4
  refine ⟨St.mk u0 u1 u2 u3 u4, ?_⟩
  rw [St.d_parts]
  exact (Vals.app k0 (Vals.app k1 (Vals.app k2 (Vals.app k3 k4))))

theorem Fn.ds_map : ∀ l : List Fn, Fn.ds l = l.map Fn.d
  | [] => by simp [Fn.ds]
  | t :: r => by simp [Fn.ds, Fn.ds_map r]
theorem Fn.d_parts (t : Fn) : t.d = [D.str t.name] ++ ([D.boo t.weak] ++ ([D.num t.params] ++ ([D.num t.locals] ++ [D.lst 5 (St.ds t.body)]))) := by
  cases t with | mk x0 x1 x2 x3 x4 =>
  rfl
set_option maxRecDepth 100000 in
theorem readFn : ∀ (f : Nat) (cs : List Value) (x : DataW H × List MemPlace), DataW.trod enc Try.prog W 0 (fun _ => true) true f 92 cs = some x → Sized 92 x.1 → ∃ t : Fn, Vals W t.d cs := by
  intro f
  induction f using Nat.strongRecOn with | _ f ih =>
  intro cs x h hz
  obtain ⟨xs, n, rfl, rfl, hl, hxl, hf⟩ := DataW.trod_struct Try.underlying92 h
  have hl : cs.length = 5 := hl.trans (by kernel_rfl)
  have hxl : xs.length = 5 := hxl
  obtain ⟨v0, v1, v2, v3, v4, rfl⟩ : ∃ v0 v1 v2 v3 v4, cs = [v0, v1, v2, v3, v4] := by
    match cs, hl with
    | [v0, v1, v2, v3, v4], _ => exact ⟨v0, v1, v2, v3, v4, rfl⟩
  obtain ⟨x0, x1, x2, x3, x4, rfl⟩ : ∃ x0 x1 x2 x3 x4, xs = [x0, x1, x2, x3, x4] := by
    match xs, hxl with
    | [x0, x1, x2, x3, x4], _ => exact ⟨x0, x1, x2, x3, x4, rfl⟩
  have h0 := part_of hf 0 rfl rfl rfl 1 (by kernel_rfl) rfl [v0] rfl
  have z0 := hz.part Try.underlying92 0 rfl rfl
  obtain ⟨u0, k0⟩ := read_str (by kernel_rfl) h0 z0
  have h1 := part_of hf 1 rfl rfl rfl 1 (by kernel_rfl) rfl [v1] rfl
  have z1 := hz.part Try.underlying92 1 rfl rfl
  obtain ⟨u1, k1⟩ := read_boo (by kernel_rfl) h1
  have h2 := part_of hf 2 rfl rfl rfl 1 (by kernel_rfl) rfl [v2] rfl
  have z2 := hz.part Try.underlying92 2 rfl rfl
  obtain ⟨u2, k2⟩ := read_num (by kernel_rfl) h2
  have h3 := part_of hf 3 rfl rfl rfl 1 (by kernel_rfl) rfl [v3] rfl
  have z3 := hz.part Try.underlying92 3 rfl rfl
  obtain ⟨u3, k3⟩ := read_num (by kernel_rfl) h3
  have h4 := part_of hf 4 rfl rfl rfl 1 (by kernel_rfl) rfl [v4] rfl
  have z4 := hz.part Try.underlying92 4 rfl rfl
  obtain ⟨u4, k4⟩ := read_slice St.d (e := 110) (n := 5) (by kernel_rfl) (by decide) (of_decide_eq_true (by kernel_rfl)) (by kernel_rfl) h4 z4 (fun f' cs' y hlt hy hzy => readSt f' cs' y hy hzy)
  rw [← St.ds_map] at k4
  refine ⟨Fn.mk u0 u1 u2 u3 u4, ?_⟩
  rw [Fn.d_parts]
  exact (Vals.app k0 (Vals.app k1 (Vals.app k2 (Vals.app k3 k4))))

theorem Un.ds_map : ∀ l : List Un, Un.ds l = l.map Un.d
  | [] => by simp [Un.ds]
  | t :: r => by simp [Un.ds, Un.ds_map r]
theorem Un.d_parts (t : Un) : t.d = [D.str t.pkg] ++ ([D.lst 2 (Imp.ds t.imports)] ++ ([D.lst 10 (Dcl.ds t.decls)] ++ [D.lst 5 (Fn.ds t.bodies)])) := by
  cases t with | mk x0 x1 x2 x3 =>
  rfl
set_option maxRecDepth 100000 in
theorem readUn : ∀ (f : Nat) (cs : List Value) (x : DataW H × List MemPlace), DataW.trod enc Try.prog W 0 (fun _ => true) true f 63 cs = some x → Sized 63 x.1 → ∃ t : Un, Vals W t.d cs := by
  intro f
  induction f using Nat.strongRecOn with | _ f ih =>
  intro cs x h hz
  obtain ⟨xs, n, rfl, rfl, hl, hxl, hf⟩ := DataW.trod_struct Try.underlying63 h
  have hl : cs.length = 4 := hl.trans (by kernel_rfl)
  have hxl : xs.length = 4 := hxl
  obtain ⟨v0, v1, v2, v3, rfl⟩ : ∃ v0 v1 v2 v3, cs = [v0, v1, v2, v3] := by
    match cs, hl with
    | [v0, v1, v2, v3], _ => exact ⟨v0, v1, v2, v3, rfl⟩
  obtain ⟨x0, x1, x2, x3, rfl⟩ : ∃ x0 x1 x2 x3, xs = [x0, x1, x2, x3] := by
    match xs, hxl with
    | [x0, x1, x2, x3], _ => exact ⟨x0, x1, x2, x3, rfl⟩
  have h0 := part_of hf 0 rfl rfl rfl 1 (by kernel_rfl) rfl [v0] rfl
  have z0 := hz.part Try.underlying63 0 rfl rfl
  obtain ⟨u0, k0⟩ := read_str (by kernel_rfl) h0 z0
  have h1 := part_of hf 1 rfl rfl rfl 1 (by kernel_rfl) rfl [v1] rfl
  have z1 := hz.part Try.underlying63 1 rfl rfl
  obtain ⟨u1, k1⟩ := read_slice Imp.d (e := 135) (n := 2) (by kernel_rfl) (by decide) (of_decide_eq_true (by kernel_rfl)) (by kernel_rfl) h1 z1 (fun f' cs' y hlt hy hzy => readImp f' cs' y hy hzy)
  rw [← Imp.ds_map] at k1
  have h2 := part_of hf 2 rfl rfl rfl 1 (by kernel_rfl) rfl [v2] rfl
  have z2 := hz.part Try.underlying63 2 rfl rfl
  obtain ⟨u2, k2⟩ := read_slice Dcl.d (e := 46) (n := 10) (by kernel_rfl) (by decide) (of_decide_eq_true (by kernel_rfl)) (by kernel_rfl) h2 z2 (fun f' cs' y hlt hy hzy => readDcl f' cs' y hy hzy)
  rw [← Dcl.ds_map] at k2
  have h3 := part_of hf 3 rfl rfl rfl 1 (by kernel_rfl) rfl [v3] rfl
  have z3 := hz.part Try.underlying63 3 rfl rfl
  obtain ⟨u3, k3⟩ := read_slice Fn.d (e := 92) (n := 5) (by kernel_rfl) (by decide) (of_decide_eq_true (by kernel_rfl)) (by kernel_rfl) h3 z3 (fun f' cs' y hlt hy hzy => readFn f' cs' y hy hzy)
  rw [← Fn.ds_map] at k3
  refine ⟨Un.mk u0 u1 u2 u3, ?_⟩
  rw [Un.d_parts]
  exact (Vals.app k0 (Vals.app k1 (Vals.app k2 k3)))

end
end Go.Proofs.Ytiecbgclkdlpkaa
