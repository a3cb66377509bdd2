/-
  The walks of export's within: one deeper while something is read. The conditions: the reader stands (RdS); what is read inside has its contract.
-/
import Derived.Test.YtghnaaahkbnhlaaRdE
namespace Go.Proofs.Ytghnaaahkbnhlaa
open Go.RowKit Go.Lib
set_option linter.unusedVariables false
set_option linter.unusedSimpArgs false

/-- The reader's depth is set. -/
theorem RdS.deep {W0 w : World} {br : Nat} {l : List UInt8} {dp : Int} (h : RdS W0 w br l dp) (z : Int) : RdS W0 (w.setCell ⟨br, 1, none⟩ (.int .i64 z)) br l z ∧ Chg (fun k => k = br) w (w.setCell ⟨br, 1, none⟩ (.int .i64 z)) := by
  obtain ⟨b, o, c, hb, hc, hr⟩ := h.at_
  have hch : Chg (fun k => k = br) w (w.setCell ⟨br, 1, none⟩ (.int .i64 z)) := (Chg.refl (fun k => k = br) w).setCell (p := ⟨br, 1, none⟩) (fun _ => rfl) _
  exact ⟨⟨Below.chg h.old hch h.old.size (fun i e => e ▸ h.br_ge), h.br_ge, ⟨b, o, c, by simpa using set_at hb 1 _, hc, hr⟩, h.len⟩, hch⟩

set_option maxRecDepth 100000 in
set_option maxHeartbeats 1600000 in
theorem withinTy_any (W0 w : World) (br : Nat) (dp : Int) (inner : Pa Ty) (g kc : Nat) (l : List UInt8) (hf : Enters g) (h : RdS W0 w br l dp) (h0 : 0 ≤ dp) (h1 : dp ≤ 1000)
    (hcl : dp ≤ 100 → ∀ w', RdS W0 w' br l (dp + 1) → w.heap.size ≤ w'.heap.size → Chg (fun k => k = br) w w' → Calls Try.prog g #[.pointer (some ⟨kc, 0, none⟩)] w' (RdP W0 br (dp + 1) w' (inner l) (ValR w' Ty.d))) :
    Calls Try.prog 96 #[.pointer (some ⟨br, 0, none⟩), .func (.func g) #[] #[.pointer (some ⟨kc, 0, none⟩)]] w (RdP W0 br dp w (if 100 < dp then none else inner l) (ValR w Ty.d)) := by
  have HCL := Lib.hid hcl; clear hcl
  have HF := hf; unfold Enters at hf; have HE := Lib.hid HF; clear HF
  have hA : Chg (fun _ => False) w (w.alloc (.cells #[.int .i64 0, .string ⟨#[]⟩, .string ⟨#[]⟩, .slice none 0 0, .slice none 0 0] 44)) := (Chg.refl _ _).alloc _
  have hs := h.keep hA id (fun _ q => q.elim)
  have hbr := alloc_at w (.cells #[.int .i64 0, .string ⟨#[]⟩, .string ⟨#[]⟩, .slice none 0 0, .slice none 0 0] 44)
  obtain ⟨b0, o0, cz0, hb, _, _⟩ := hs.at_
  have cb1 : (w.alloc (.cells #[.int .i64 0, .string ⟨#[]⟩, .string ⟨#[]⟩, .slice none 0 0, .slice none 0 0] 44)).cell? ⟨br, 1, none⟩ = some (.int .i64 dp) := (cell_at hb 1).trans rfl
  have fb1 := free_at hb 1
  have HBR := Lib.hid h.lt
  have HC := Lib.hid (hA.mono (S' := fun k => k = br) (fun _ _ q => q.elim))
  obtain ⟨hs1, hc1⟩ := hs.deep (dp + 1)
  have HS1 := Lib.hid hs1
  have HC1 := Lib.hid (HC.out.trans hc1 (fun _ _ e => e))
  have HB1 := Lib.hid (hc1.heap hbr (by have := HBR.out; omega))
  have HSZ := Lib.hid (show w.heap.size ≤ ((w.alloc (.cells #[.int .i64 0, .string ⟨#[]⟩, .string ⟨#[]⟩, .slice none 0 0, .slice none 0 0] 44)).setCell ⟨br, 1, none⟩ (.int .i64 (dp + 1))).heap.size from HC1.out.size)
  clear h hA hs hbr hb hs1 hc1
  by_cases hd : 100 < dp
  · rw [if_pos hd]
    go_enter Try.func96, Try.ntmps96
    go_wp2_with fail
    exact ⟨rfl, _, rfl, HC.out⟩
  · rw [if_neg hd]
    go_enter Try.func96, Try.ntmps96
    go_wp2_with fail
    refine (HCL.out (by omega) _ HS1.out HSZ.out HC1.out).mono ?_
    intro e w2 he
    rcases he.split with ⟨x, l2, v, hp, rfl, ⟨vs, rfl, hv⟩, hs, hc⟩ | ⟨hp, u, rfl, hc⟩
    case inr =>
      have HT := Lib.hid hp
      have HC2 := Lib.hid (HC1.out.trans hc (fun _ _ e => e))
      clear hp hc he
      go_wp2_with fail
      refine ⟨rfl, ?_⟩
      rw [HT.out]
      exact ⟨_, rfl, HC2.out⟩
    have HT := Lib.hid hp
    obtain ⟨A3, c3, A4, c4, rfl, q0, q1, q2, q3, q4⟩ := Ty.opn hv
    have HV := Lib.hid hv
    have hB : Chg (fun _ => False) w2 (w2.alloc (.cells #[.int .i64 x.kind, .string x.pkg, .string x.name, .slice A3 x.args.length c3, .slice A4 x.res.length c4] 44)) := (Chg.refl _ _).alloc _
    have hs2 := hs.keep hB id (fun _ q => q.elim)
    obtain ⟨b3, o3, cz3, hb3, _, _⟩ := hs2.at_
    have cb4 : (w2.alloc (.cells #[.int .i64 x.kind, .string x.pkg, .string x.name, .slice A3 x.args.length c3, .slice A4 x.res.length c4] 44)).cell? ⟨br, 1, none⟩ = some (.int .i64 (dp + 1)) := (cell_at hb3 1).trans rfl
    have fb4 := free_at hb3 1
    obtain ⟨hs3, hc3⟩ := hs2.deep dp
    have hres := hc3.heap (hB.heap (hc.heap HB1.out (by have := HBR.out; omega)) id) (by have := HBR.out; omega)
    have hloc := hc3.heap (alloc_at w2 (.cells #[.int .i64 x.kind, .string x.pkg, .string x.name, .slice A3 x.args.length c3, .slice A4 x.res.length c4] 44)) (by have := HBR.out; have := HC1.out.size; have := hc.size; omega)
    have hset : Chg (fun k => k = w.heap.size) ((w2.alloc (.cells #[.int .i64 x.kind, .string x.pkg, .string x.name, .slice A3 x.args.length c3, .slice A4 x.res.length c4] 44)).setCell ⟨br, 1, none⟩ (.int .i64 dp)) (((((((w2.alloc (.cells #[.int .i64 x.kind, .string x.pkg, .string x.name, .slice A3 x.args.length c3, .slice A4 x.res.length c4] 44)).setCell ⟨br, 1, none⟩ (.int .i64 dp)).setCell ⟨w.heap.size, 0, none⟩ (.int .i64 x.kind)).setCell ⟨w.heap.size, 1, none⟩ (.string x.pkg)).setCell ⟨w.heap.size, 2, none⟩ (.string x.name)).setCell ⟨w.heap.size, 3, none⟩ (.slice A3 x.args.length c3)).setCell ⟨w.heap.size, 4, none⟩ (.slice A4 x.res.length c4)) := ((((((Chg.refl (fun k => k = w.heap.size) ((w2.alloc (.cells #[.int .i64 x.kind, .string x.pkg, .string x.name, .slice A3 x.args.length c3, .slice A4 x.res.length c4] 44)).setCell ⟨br, 1, none⟩ (.int .i64 dp))).setCell (p := ⟨w.heap.size, 0, none⟩) (fun _ => rfl) (.int .i64 x.kind)).setCell (p := ⟨w.heap.size, 1, none⟩) (fun _ => rfl) (.string x.pkg)).setCell (p := ⟨w.heap.size, 2, none⟩) (fun _ => rfl) (.string x.name)).setCell (p := ⟨w.heap.size, 3, none⟩) (fun _ => rfl) (.slice A3 x.args.length c3)).setCell (p := ⟨w.heap.size, 4, none⟩) (fun _ => rfl) (.slice A4 x.res.length c4))
    have HS4 := Lib.hid (hs3.keep hset (fun q => by have := HBR.out; omega) (fun k q => by have := hs3.br_ge; have := HBR.out; omega))
    have hcc := (hc.trans hB (fun _ _ q => q.elim)).trans hc3 (fun _ _ e => e)
    have HC4 := Lib.hid ((HC1.out.trans hcc (fun _ _ e => e)).trans hset (fun i hi q => by omega))
    have r0 := free_at hres 0
    have s_0 : ((w2.alloc (.cells #[.int .i64 x.kind, .string x.pkg, .string x.name, .slice A3 x.args.length c3, .slice A4 x.res.length c4] 44)).setCell ⟨br, 1, none⟩ (.int .i64 dp)).cell? ⟨w.heap.size, 0, none⟩ = some (.int .i64 0) := (cell_at hres 0).trans rfl
    have g_0 : ((w2.alloc (.cells #[.int .i64 x.kind, .string x.pkg, .string x.name, .slice A3 x.args.length c3, .slice A4 x.res.length c4] 44)).setCell ⟨br, 1, none⟩ (.int .i64 dp)).cell? ⟨w2.heap.size, 0, none⟩ = some (.int .i64 x.kind) := (cell_at hloc 0).trans rfl
    have r1 := free_at hres 1
    have s_1 : ((w2.alloc (.cells #[.int .i64 x.kind, .string x.pkg, .string x.name, .slice A3 x.args.length c3, .slice A4 x.res.length c4] 44)).setCell ⟨br, 1, none⟩ (.int .i64 dp)).cell? ⟨w.heap.size, 1, none⟩ = some (.string ⟨#[]⟩) := (cell_at hres 1).trans rfl
    have g_1 : ((w2.alloc (.cells #[.int .i64 x.kind, .string x.pkg, .string x.name, .slice A3 x.args.length c3, .slice A4 x.res.length c4] 44)).setCell ⟨br, 1, none⟩ (.int .i64 dp)).cell? ⟨w2.heap.size, 1, none⟩ = some (.string x.pkg) := (cell_at hloc 1).trans rfl
    have r2 := free_at hres 2
    have s_2 : ((w2.alloc (.cells #[.int .i64 x.kind, .string x.pkg, .string x.name, .slice A3 x.args.length c3, .slice A4 x.res.length c4] 44)).setCell ⟨br, 1, none⟩ (.int .i64 dp)).cell? ⟨w.heap.size, 2, none⟩ = some (.string ⟨#[]⟩) := (cell_at hres 2).trans rfl
    have g_2 : ((w2.alloc (.cells #[.int .i64 x.kind, .string x.pkg, .string x.name, .slice A3 x.args.length c3, .slice A4 x.res.length c4] 44)).setCell ⟨br, 1, none⟩ (.int .i64 dp)).cell? ⟨w2.heap.size, 2, none⟩ = some (.string x.name) := (cell_at hloc 2).trans rfl
    have r3 := free_at hres 3
    have s_3 : ((w2.alloc (.cells #[.int .i64 x.kind, .string x.pkg, .string x.name, .slice A3 x.args.length c3, .slice A4 x.res.length c4] 44)).setCell ⟨br, 1, none⟩ (.int .i64 dp)).cell? ⟨w.heap.size, 3, none⟩ = some (.slice none 0 0) := (cell_at hres 3).trans rfl
    have g_3 : ((w2.alloc (.cells #[.int .i64 x.kind, .string x.pkg, .string x.name, .slice A3 x.args.length c3, .slice A4 x.res.length c4] 44)).setCell ⟨br, 1, none⟩ (.int .i64 dp)).cell? ⟨w2.heap.size, 3, none⟩ = some (.slice A3 x.args.length c3) := (cell_at hloc 3).trans rfl
    have r4 := free_at hres 4
    have s_4 : ((w2.alloc (.cells #[.int .i64 x.kind, .string x.pkg, .string x.name, .slice A3 x.args.length c3, .slice A4 x.res.length c4] 44)).setCell ⟨br, 1, none⟩ (.int .i64 dp)).cell? ⟨w.heap.size, 4, none⟩ = some (.slice none 0 0) := (cell_at hres 4).trans rfl
    have g_4 : ((w2.alloc (.cells #[.int .i64 x.kind, .string x.pkg, .string x.name, .slice A3 x.args.length c3, .slice A4 x.res.length c4] 44)).setCell ⟨br, 1, none⟩ (.int .i64 dp)).cell? ⟨w2.heap.size, 4, none⟩ = some (.slice A4 x.res.length c4) := (cell_at hloc 4).trans rfl
    have hz0 : (((w2.alloc (.cells #[.int .i64 x.kind, .string x.pkg, .string x.name, .slice A3 x.args.length c3, .slice A4 x.res.length c4] 44)).setCell ⟨br, 1, none⟩ (.int .i64 dp)).setCell ⟨w.heap.size, 0, none⟩ (.int .i64 x.kind)).heap[w.heap.size]? = some (.cells #[.int .i64 x.kind, .string ⟨#[]⟩, .string ⟨#[]⟩, .slice none 0 0, .slice none 0 0] 44 (0, 0)) := set_at hres 0 (.int .i64 x.kind)
    have hz1 : ((((w2.alloc (.cells #[.int .i64 x.kind, .string x.pkg, .string x.name, .slice A3 x.args.length c3, .slice A4 x.res.length c4] 44)).setCell ⟨br, 1, none⟩ (.int .i64 dp)).setCell ⟨w.heap.size, 0, none⟩ (.int .i64 x.kind)).setCell ⟨w.heap.size, 1, none⟩ (.string x.pkg)).heap[w.heap.size]? = some (.cells #[.int .i64 x.kind, .string x.pkg, .string ⟨#[]⟩, .slice none 0 0, .slice none 0 0] 44 (0, 0)) := set_at hz0 1 (.string x.pkg)
    have hz2 : (((((w2.alloc (.cells #[.int .i64 x.kind, .string x.pkg, .string x.name, .slice A3 x.args.length c3, .slice A4 x.res.length c4] 44)).setCell ⟨br, 1, none⟩ (.int .i64 dp)).setCell ⟨w.heap.size, 0, none⟩ (.int .i64 x.kind)).setCell ⟨w.heap.size, 1, none⟩ (.string x.pkg)).setCell ⟨w.heap.size, 2, none⟩ (.string x.name)).heap[w.heap.size]? = some (.cells #[.int .i64 x.kind, .string x.pkg, .string x.name, .slice none 0 0, .slice none 0 0] 44 (0, 0)) := set_at hz1 2 (.string x.name)
    have hz3 : ((((((w2.alloc (.cells #[.int .i64 x.kind, .string x.pkg, .string x.name, .slice A3 x.args.length c3, .slice A4 x.res.length c4] 44)).setCell ⟨br, 1, none⟩ (.int .i64 dp)).setCell ⟨w.heap.size, 0, none⟩ (.int .i64 x.kind)).setCell ⟨w.heap.size, 1, none⟩ (.string x.pkg)).setCell ⟨w.heap.size, 2, none⟩ (.string x.name)).setCell ⟨w.heap.size, 3, none⟩ (.slice A3 x.args.length c3)).heap[w.heap.size]? = some (.cells #[.int .i64 x.kind, .string x.pkg, .string x.name, .slice A3 x.args.length c3, .slice none 0 0] 44 (0, 0)) := set_at hz2 3 (.slice A3 x.args.length c3)
    have hz4 : (((((((w2.alloc (.cells #[.int .i64 x.kind, .string x.pkg, .string x.name, .slice A3 x.args.length c3, .slice A4 x.res.length c4] 44)).setCell ⟨br, 1, none⟩ (.int .i64 dp)).setCell ⟨w.heap.size, 0, none⟩ (.int .i64 x.kind)).setCell ⟨w.heap.size, 1, none⟩ (.string x.pkg)).setCell ⟨w.heap.size, 2, none⟩ (.string x.name)).setCell ⟨w.heap.size, 3, none⟩ (.slice A3 x.args.length c3)).setCell ⟨w.heap.size, 4, none⟩ (.slice A4 x.res.length c4)).heap[w.heap.size]? = some (.cells #[.int .i64 x.kind, .string x.pkg, .string x.name, .slice A3 x.args.length c3, .slice A4 x.res.length c4] 44 (0, 0)) := set_at hz3 4 (.slice A4 x.res.length c4)
    have hr : ∀ (i : Nat) (v : Value), ([.int .i64 x.kind, .string x.pkg, .string x.name, .slice A3 x.args.length c3, .slice A4 x.res.length c4] : List Value)[i]? = some v → (((((((w2.alloc (.cells #[.int .i64 x.kind, .string x.pkg, .string x.name, .slice A3 x.args.length c3, .slice A4 x.res.length c4] 44)).setCell ⟨br, 1, none⟩ (.int .i64 dp)).setCell ⟨w.heap.size, 0, none⟩ (.int .i64 x.kind)).setCell ⟨w.heap.size, 1, none⟩ (.string x.pkg)).setCell ⟨w.heap.size, 2, none⟩ (.string x.name)).setCell ⟨w.heap.size, 3, none⟩ (.slice A3 x.args.length c3)).setCell ⟨w.heap.size, 4, none⟩ (.slice A4 x.res.length c4)).cell? ⟨w.heap.size, i, none⟩ = some v := fun i v q => by rw [cell_at hz4]; simpa using q
    clear hz0 hz1 hz2 hz3 hz4
    have HR := Lib.hid hr; clear hr
    have hlow : Chg (fun k => k < ((w.alloc (.cells #[.int .i64 0, .string ⟨#[]⟩, .string ⟨#[]⟩, .slice none 0 0, .slice none 0 0] 44)).setCell ⟨br, 1, none⟩ (.int .i64 (dp + 1))).heap.size) w2 (((((((w2.alloc (.cells #[.int .i64 x.kind, .string x.pkg, .string x.name, .slice A3 x.args.length c3, .slice A4 x.res.length c4] 44)).setCell ⟨br, 1, none⟩ (.int .i64 dp)).setCell ⟨w.heap.size, 0, none⟩ (.int .i64 x.kind)).setCell ⟨w.heap.size, 1, none⟩ (.string x.pkg)).setCell ⟨w.heap.size, 2, none⟩ (.string x.name)).setCell ⟨w.heap.size, 3, none⟩ (.slice A3 x.args.length c3)).setCell ⟨w.heap.size, 4, none⟩ (.slice A4 x.res.length c4)) := ((hB.mono (fun _ _ q => q.elim)).trans (hc3.mono (fun k _ e => by have := HBR.out; have := HSZ.out; omega)) (fun _ _ e => e)).trans (hset.mono (fun k _ e => by have := lt_of_block HB1.out; omega)) (fun _ _ e => e)
    have HV2 := Lib.hid (HV.out.sub (new_chg hlow (g' := none) (fun k q _ => .inl q) (fun k q => by cases q)))
    clear hp hs hc he hv hB hs2 hb3 hs3 hc3 hres hloc hset hcc hlow q0 q1 q2 q3 q4
    go_wp2_with fail
    refine bodyPost_ret (v := .agg #[.int .i64 x.kind, .string x.pkg, .string x.name, .slice A3 x.args.length c3, .slice A4 x.res.length c4]) (by have d0 := HR.out 0 _ rfl; have d1 := HR.out 1 _ rfl; have d2 := HR.out 2 _ rfl; have d3 := HR.out 3 _ rfl; have d4 := HR.out 4 _ rfl; simp [results, Try.results96, go_sem, d0, d1, d2, d3, d4]) rfl ?_
    rw [HT.out]
    exact ⟨_, rfl, ⟨_, rfl, HV2.out.sub (new_mono HSZ.out _ _)⟩, HS4.out, HC4.out⟩
set_option maxRecDepth 100000 in
set_option maxHeartbeats 1600000 in
theorem withinEx_any (W0 w : World) (br : Nat) (dp : Int) (inner : Pa Ex) (g kc : Nat) (l : List UInt8) (hf : Enters g) (h : RdS W0 w br l dp) (h0 : 0 ≤ dp) (h1 : dp ≤ 1000)
    (hcl : dp ≤ 100 → ∀ w', RdS W0 w' br l (dp + 1) → w.heap.size ≤ w'.heap.size → Chg (fun k => k = br) w w' → Calls Try.prog g #[.pointer (some ⟨kc, 0, none⟩)] w' (RdP W0 br (dp + 1) w' (inner l) (ValR w' Ex.d))) :
    Calls Try.prog 109 #[.pointer (some ⟨br, 0, none⟩), .func (.func g) #[] #[.pointer (some ⟨kc, 0, none⟩)]] w (RdP W0 br dp w (if 100 < dp then none else inner l) (ValR w Ex.d)) := by
  have HCL := Lib.hid hcl; clear hcl
  have HF := hf; unfold Enters at hf; have HE := Lib.hid HF; clear HF
  have hA : Chg (fun _ => False) w (w.alloc (.cells #[.int .i64 0, .int .i64 0, .string ⟨#[]⟩, .slice none 0 0] 132)) := (Chg.refl _ _).alloc _
  have hs := h.keep hA id (fun _ q => q.elim)
  have hbr := alloc_at w (.cells #[.int .i64 0, .int .i64 0, .string ⟨#[]⟩, .slice none 0 0] 132)
  obtain ⟨b0, o0, cz0, hb, _, _⟩ := hs.at_
  have cb1 : (w.alloc (.cells #[.int .i64 0, .int .i64 0, .string ⟨#[]⟩, .slice none 0 0] 132)).cell? ⟨br, 1, none⟩ = some (.int .i64 dp) := (cell_at hb 1).trans rfl
  have fb1 := free_at hb 1
  have HBR := Lib.hid h.lt
  have HC := Lib.hid (hA.mono (S' := fun k => k = br) (fun _ _ q => q.elim))
  obtain ⟨hs1, hc1⟩ := hs.deep (dp + 1)
  have HS1 := Lib.hid hs1
  have HC1 := Lib.hid (HC.out.trans hc1 (fun _ _ e => e))
  have HB1 := Lib.hid (hc1.heap hbr (by have := HBR.out; omega))
  have HSZ := Lib.hid (show w.heap.size ≤ ((w.alloc (.cells #[.int .i64 0, .int .i64 0, .string ⟨#[]⟩, .slice none 0 0] 132)).setCell ⟨br, 1, none⟩ (.int .i64 (dp + 1))).heap.size from HC1.out.size)
  clear h hA hs hbr hb hs1 hc1
  by_cases hd : 100 < dp
  · rw [if_pos hd]
    go_enter Try.func109, Try.ntmps109
    go_wp2_with fail
    exact ⟨rfl, _, rfl, HC.out⟩
  · rw [if_neg hd]
    go_enter Try.func109, Try.ntmps109
    go_wp2_with fail
    refine (HCL.out (by omega) _ HS1.out HSZ.out HC1.out).mono ?_
    intro e w2 he
    rcases he.split with ⟨x, l2, v, hp, rfl, ⟨vs, rfl, hv⟩, hs, hc⟩ | ⟨hp, u, rfl, hc⟩
    case inr =>
      have HT := Lib.hid hp
      have HC2 := Lib.hid (HC1.out.trans hc (fun _ _ e => e))
      clear hp hc he
      go_wp2_with fail
      refine ⟨rfl, ?_⟩
      rw [HT.out]
      exact ⟨_, rfl, HC2.out⟩
    have HT := Lib.hid hp
    obtain ⟨A3, c3, rfl, q0, q1, q2, q3⟩ := Ex.opn hv
    have HV := Lib.hid hv
    have hB : Chg (fun _ => False) w2 (w2.alloc (.cells #[.int .i64 x.op, .int .i64 x.n, .string x.name, .slice A3 x.kids.length c3] 132)) := (Chg.refl _ _).alloc _
    have hs2 := hs.keep hB id (fun _ q => q.elim)
    obtain ⟨b3, o3, cz3, hb3, _, _⟩ := hs2.at_
    have cb4 : (w2.alloc (.cells #[.int .i64 x.op, .int .i64 x.n, .string x.name, .slice A3 x.kids.length c3] 132)).cell? ⟨br, 1, none⟩ = some (.int .i64 (dp + 1)) := (cell_at hb3 1).trans rfl
    have fb4 := free_at hb3 1
    obtain ⟨hs3, hc3⟩ := hs2.deep dp
    have hres := hc3.heap (hB.heap (hc.heap HB1.out (by have := HBR.out; omega)) id) (by have := HBR.out; omega)
    have hloc := hc3.heap (alloc_at w2 (.cells #[.int .i64 x.op, .int .i64 x.n, .string x.name, .slice A3 x.kids.length c3] 132)) (by have := HBR.out; have := HC1.out.size; have := hc.size; omega)
    have hset : Chg (fun k => k = w.heap.size) ((w2.alloc (.cells #[.int .i64 x.op, .int .i64 x.n, .string x.name, .slice A3 x.kids.length c3] 132)).setCell ⟨br, 1, none⟩ (.int .i64 dp)) ((((((w2.alloc (.cells #[.int .i64 x.op, .int .i64 x.n, .string x.name, .slice A3 x.kids.length c3] 132)).setCell ⟨br, 1, none⟩ (.int .i64 dp)).setCell ⟨w.heap.size, 0, none⟩ (.int .i64 x.op)).setCell ⟨w.heap.size, 1, none⟩ (.int .i64 x.n)).setCell ⟨w.heap.size, 2, none⟩ (.string x.name)).setCell ⟨w.heap.size, 3, none⟩ (.slice A3 x.kids.length c3)) := (((((Chg.refl (fun k => k = w.heap.size) ((w2.alloc (.cells #[.int .i64 x.op, .int .i64 x.n, .string x.name, .slice A3 x.kids.length c3] 132)).setCell ⟨br, 1, none⟩ (.int .i64 dp))).setCell (p := ⟨w.heap.size, 0, none⟩) (fun _ => rfl) (.int .i64 x.op)).setCell (p := ⟨w.heap.size, 1, none⟩) (fun _ => rfl) (.int .i64 x.n)).setCell (p := ⟨w.heap.size, 2, none⟩) (fun _ => rfl) (.string x.name)).setCell (p := ⟨w.heap.size, 3, none⟩) (fun _ => rfl) (.slice A3 x.kids.length c3))
    have HS4 := Lib.hid (hs3.keep hset (fun q => by have := HBR.out; omega) (fun k q => by have := hs3.br_ge; have := HBR.out; omega))
    have hcc := (hc.trans hB (fun _ _ q => q.elim)).trans hc3 (fun _ _ e => e)
    have HC4 := Lib.hid ((HC1.out.trans hcc (fun _ _ e => e)).trans hset (fun i hi q => by omega))
    have r0 := free_at hres 0
    have s_0 : ((w2.alloc (.cells #[.int .i64 x.op, .int .i64 x.n, .string x.name, .slice A3 x.kids.length c3] 132)).setCell ⟨br, 1, none⟩ (.int .i64 dp)).cell? ⟨w.heap.size, 0, none⟩ = some (.int .i64 0) := (cell_at hres 0).trans rfl
    have g_0 : ((w2.alloc (.cells #[.int .i64 x.op, .int .i64 x.n, .string x.name, .slice A3 x.kids.length c3] 132)).setCell ⟨br, 1, none⟩ (.int .i64 dp)).cell? ⟨w2.heap.size, 0, none⟩ = some (.int .i64 x.op) := (cell_at hloc 0).trans rfl
    have r1 := free_at hres 1
    have s_1 : ((w2.alloc (.cells #[.int .i64 x.op, .int .i64 x.n, .string x.name, .slice A3 x.kids.length c3] 132)).setCell ⟨br, 1, none⟩ (.int .i64 dp)).cell? ⟨w.heap.size, 1, none⟩ = some (.int .i64 0) := (cell_at hres 1).trans rfl
    have g_1 : ((w2.alloc (.cells #[.int .i64 x.op, .int .i64 x.n, .string x.name, .slice A3 x.kids.length c3] 132)).setCell ⟨br, 1, none⟩ (.int .i64 dp)).cell? ⟨w2.heap.size, 1, none⟩ = some (.int .i64 x.n) := (cell_at hloc 1).trans rfl
    have r2 := free_at hres 2
    have s_2 : ((w2.alloc (.cells #[.int .i64 x.op, .int .i64 x.n, .string x.name, .slice A3 x.kids.length c3] 132)).setCell ⟨br, 1, none⟩ (.int .i64 dp)).cell? ⟨w.heap.size, 2, none⟩ = some (.string ⟨#[]⟩) := (cell_at hres 2).trans rfl
    have g_2 : ((w2.alloc (.cells #[.int .i64 x.op, .int .i64 x.n, .string x.name, .slice A3 x.kids.length c3] 132)).setCell ⟨br, 1, none⟩ (.int .i64 dp)).cell? ⟨w2.heap.size, 2, none⟩ = some (.string x.name) := (cell_at hloc 2).trans rfl
    have r3 := free_at hres 3
    have s_3 : ((w2.alloc (.cells #[.int .i64 x.op, .int .i64 x.n, .string x.name, .slice A3 x.kids.length c3] 132)).setCell ⟨br, 1, none⟩ (.int .i64 dp)).cell? ⟨w.heap.size, 3, none⟩ = some (.slice none 0 0) := (cell_at hres 3).trans rfl
    have g_3 : ((w2.alloc (.cells #[.int .i64 x.op, .int .i64 x.n, .string x.name, .slice A3 x.kids.length c3] 132)).setCell ⟨br, 1, none⟩ (.int .i64 dp)).cell? ⟨w2.heap.size, 3, none⟩ = some (.slice A3 x.kids.length c3) := (cell_at hloc 3).trans rfl
    have hz0 : (((w2.alloc (.cells #[.int .i64 x.op, .int .i64 x.n, .string x.name, .slice A3 x.kids.length c3] 132)).setCell ⟨br, 1, none⟩ (.int .i64 dp)).setCell ⟨w.heap.size, 0, none⟩ (.int .i64 x.op)).heap[w.heap.size]? = some (.cells #[.int .i64 x.op, .int .i64 0, .string ⟨#[]⟩, .slice none 0 0] 132 (0, 0)) := set_at hres 0 (.int .i64 x.op)
    have hz1 : ((((w2.alloc (.cells #[.int .i64 x.op, .int .i64 x.n, .string x.name, .slice A3 x.kids.length c3] 132)).setCell ⟨br, 1, none⟩ (.int .i64 dp)).setCell ⟨w.heap.size, 0, none⟩ (.int .i64 x.op)).setCell ⟨w.heap.size, 1, none⟩ (.int .i64 x.n)).heap[w.heap.size]? = some (.cells #[.int .i64 x.op, .int .i64 x.n, .string ⟨#[]⟩, .slice none 0 0] 132 (0, 0)) := set_at hz0 1 (.int .i64 x.n)
    have hz2 : (((((w2.alloc (.cells #[.int .i64 x.op, .int .i64 x.n, .string x.name, .slice A3 x.kids.length c3] 132)).setCell ⟨br, 1, none⟩ (.int .i64 dp)).setCell ⟨w.heap.size, 0, none⟩ (.int .i64 x.op)).setCell ⟨w.heap.size, 1, none⟩ (.int .i64 x.n)).setCell ⟨w.heap.size, 2, none⟩ (.string x.name)).heap[w.heap.size]? = some (.cells #[.int .i64 x.op, .int .i64 x.n, .string x.name, .slice none 0 0] 132 (0, 0)) := set_at hz1 2 (.string x.name)
    have hz3 : ((((((w2.alloc (.cells #[.int .i64 x.op, .int .i64 x.n, .string x.name, .slice A3 x.kids.length c3] 132)).setCell ⟨br, 1, none⟩ (.int .i64 dp)).setCell ⟨w.heap.size, 0, none⟩ (.int .i64 x.op)).setCell ⟨w.heap.size, 1, none⟩ (.int .i64 x.n)).setCell ⟨w.heap.size, 2, none⟩ (.string x.name)).setCell ⟨w.heap.size, 3, none⟩ (.slice A3 x.kids.length c3)).heap[w.heap.size]? = some (.cells #[.int .i64 x.op, .int .i64 x.n, .string x.name, .slice A3 x.kids.length c3] 132 (0, 0)) := set_at hz2 3 (.slice A3 x.kids.length c3)
    have hr : ∀ (i : Nat) (v : Value), ([.int .i64 x.op, .int .i64 x.n, .string x.name, .slice A3 x.kids.length c3] : List Value)[i]? = some v → ((((((w2.alloc (.cells #[.int .i64 x.op, .int .i64 x.n, .string x.name, .slice A3 x.kids.length c3] 132)).setCell ⟨br, 1, none⟩ (.int .i64 dp)).setCell ⟨w.heap.size, 0, none⟩ (.int .i64 x.op)).setCell ⟨w.heap.size, 1, none⟩ (.int .i64 x.n)).setCell ⟨w.heap.size, 2, none⟩ (.string x.name)).setCell ⟨w.heap.size, 3, none⟩ (.slice A3 x.kids.length c3)).cell? ⟨w.heap.size, i, none⟩ = some v := fun i v q => by rw [cell_at hz3]; simpa using q
    clear hz0 hz1 hz2 hz3
    have HR := Lib.hid hr; clear hr
    have hlow : Chg (fun k => k < ((w.alloc (.cells #[.int .i64 0, .int .i64 0, .string ⟨#[]⟩, .slice none 0 0] 132)).setCell ⟨br, 1, none⟩ (.int .i64 (dp + 1))).heap.size) w2 ((((((w2.alloc (.cells #[.int .i64 x.op, .int .i64 x.n, .string x.name, .slice A3 x.kids.length c3] 132)).setCell ⟨br, 1, none⟩ (.int .i64 dp)).setCell ⟨w.heap.size, 0, none⟩ (.int .i64 x.op)).setCell ⟨w.heap.size, 1, none⟩ (.int .i64 x.n)).setCell ⟨w.heap.size, 2, none⟩ (.string x.name)).setCell ⟨w.heap.size, 3, none⟩ (.slice A3 x.kids.length c3)) := ((hB.mono (fun _ _ q => q.elim)).trans (hc3.mono (fun k _ e => by have := HBR.out; have := HSZ.out; omega)) (fun _ _ e => e)).trans (hset.mono (fun k _ e => by have := lt_of_block HB1.out; omega)) (fun _ _ e => e)
    have HV2 := Lib.hid (HV.out.sub (new_chg hlow (g' := none) (fun k q _ => .inl q) (fun k q => by cases q)))
    clear hp hs hc he hv hB hs2 hb3 hs3 hc3 hres hloc hset hcc hlow q0 q1 q2 q3
    go_wp2_with fail
    refine bodyPost_ret (v := .agg #[.int .i64 x.op, .int .i64 x.n, .string x.name, .slice A3 x.kids.length c3]) (by have d0 := HR.out 0 _ rfl; have d1 := HR.out 1 _ rfl; have d2 := HR.out 2 _ rfl; have d3 := HR.out 3 _ rfl; simp [results, Try.results109, go_sem, d0, d1, d2, d3]) rfl ?_
    rw [HT.out]
    exact ⟨_, rfl, ⟨_, rfl, HV2.out.sub (new_mono HSZ.out _ _)⟩, HS4.out, HC4.out⟩
set_option maxRecDepth 100000 in
set_option maxHeartbeats 1600000 in
theorem withinSt_any (W0 w : World) (br : Nat) (dp : Int) (inner : Pa St) (g kc : Nat) (l : List UInt8) (hf : Enters g) (h : RdS W0 w br l dp) (h0 : 0 ≤ dp) (h1 : dp ≤ 1000)
    (hcl : dp ≤ 100 → ∀ w', RdS W0 w' br l (dp + 1) → w.heap.size ≤ w'.heap.size → Chg (fun k => k = br) w w' → Calls Try.prog g #[.pointer (some ⟨kc, 0, none⟩)] w' (RdP W0 br (dp + 1) w' (inner l) (ValR w' St.d))) :
    Calls Try.prog 99 #[.pointer (some ⟨br, 0, none⟩), .func (.func g) #[] #[.pointer (some ⟨kc, 0, none⟩)]] w (RdP W0 br dp w (if 100 < dp then none else inner l) (ValR w St.d)) := by
  have HCL := Lib.hid hcl; clear hcl
  have HF := hf; unfold Enters at hf; have HE := Lib.hid HF; clear HF
  have hA : Chg (fun _ => False) w (w.alloc (.cells #[.int .i64 0, .int .i64 0, .slice none 0 0, .slice none 0 0, .slice none 0 0] 101)) := (Chg.refl _ _).alloc _
  have hs := h.keep hA id (fun _ q => q.elim)
  have hbr := alloc_at w (.cells #[.int .i64 0, .int .i64 0, .slice none 0 0, .slice none 0 0, .slice none 0 0] 101)
  obtain ⟨b0, o0, cz0, hb, _, _⟩ := hs.at_
  have cb1 : (w.alloc (.cells #[.int .i64 0, .int .i64 0, .slice none 0 0, .slice none 0 0, .slice none 0 0] 101)).cell? ⟨br, 1, none⟩ = some (.int .i64 dp) := (cell_at hb 1).trans rfl
  have fb1 := free_at hb 1
  have HBR := Lib.hid h.lt
  have HC := Lib.hid (hA.mono (S' := fun k => k = br) (fun _ _ q => q.elim))
  obtain ⟨hs1, hc1⟩ := hs.deep (dp + 1)
  have HS1 := Lib.hid hs1
  have HC1 := Lib.hid (HC.out.trans hc1 (fun _ _ e => e))
  have HB1 := Lib.hid (hc1.heap hbr (by have := HBR.out; omega))
  have HSZ := Lib.hid (show w.heap.size ≤ ((w.alloc (.cells #[.int .i64 0, .int .i64 0, .slice none 0 0, .slice none 0 0, .slice none 0 0] 101)).setCell ⟨br, 1, none⟩ (.int .i64 (dp + 1))).heap.size from HC1.out.size)
  clear h hA hs hbr hb hs1 hc1
  by_cases hd : 100 < dp
  · rw [if_pos hd]
    go_enter Try.func99, Try.ntmps99
    go_wp2_with fail
    exact ⟨rfl, _, rfl, HC.out⟩
  · rw [if_neg hd]
    go_enter Try.func99, Try.ntmps99
    go_wp2_with fail
    refine (HCL.out (by omega) _ HS1.out HSZ.out HC1.out).mono ?_
    intro e w2 he
    rcases he.split with ⟨x, l2, v, hp, rfl, ⟨vs, rfl, hv⟩, hs, hc⟩ | ⟨hp, u, rfl, hc⟩
    case inr =>
      have HT := Lib.hid hp
      have HC2 := Lib.hid (HC1.out.trans hc (fun _ _ e => e))
      clear hp hc he
      go_wp2_with fail
      refine ⟨rfl, ?_⟩
      rw [HT.out]
      exact ⟨_, rfl, HC2.out⟩
    have HT := Lib.hid hp
    obtain ⟨A2, c2, A3, c3, A4, c4, rfl, q0, q1, q2, q3, q4⟩ := St.opn hv
    have HV := Lib.hid hv
    have hB : Chg (fun _ => False) w2 (w2.alloc (.cells #[.int .i64 x.op, .int .i64 x.n, .slice A2 x.exprs.length c2, .slice A3 x.body.length c3, .slice A4 x.els.length c4] 101)) := (Chg.refl _ _).alloc _
    have hs2 := hs.keep hB id (fun _ q => q.elim)
    obtain ⟨b3, o3, cz3, hb3, _, _⟩ := hs2.at_
    have cb4 : (w2.alloc (.cells #[.int .i64 x.op, .int .i64 x.n, .slice A2 x.exprs.length c2, .slice A3 x.body.length c3, .slice A4 x.els.length c4] 101)).cell? ⟨br, 1, none⟩ = some (.int .i64 (dp + 1)) := (cell_at hb3 1).trans rfl
    have fb4 := free_at hb3 1
    obtain ⟨hs3, hc3⟩ := hs2.deep dp
    have hres := hc3.heap (hB.heap (hc.heap HB1.out (by have := HBR.out; omega)) id) (by have := HBR.out; omega)
    have hloc := hc3.heap (alloc_at w2 (.cells #[.int .i64 x.op, .int .i64 x.n, .slice A2 x.exprs.length c2, .slice A3 x.body.length c3, .slice A4 x.els.length c4] 101)) (by have := HBR.out; have := HC1.out.size; have := hc.size; omega)
    have hset : Chg (fun k => k = w.heap.size) ((w2.alloc (.cells #[.int .i64 x.op, .int .i64 x.n, .slice A2 x.exprs.length c2, .slice A3 x.body.length c3, .slice A4 x.els.length c4] 101)).setCell ⟨br, 1, none⟩ (.int .i64 dp)) (((((((w2.alloc (.cells #[.int .i64 x.op, .int .i64 x.n, .slice A2 x.exprs.length c2, .slice A3 x.body.length c3, .slice A4 x.els.length c4] 101)).setCell ⟨br, 1, none⟩ (.int .i64 dp)).setCell ⟨w.heap.size, 0, none⟩ (.int .i64 x.op)).setCell ⟨w.heap.size, 1, none⟩ (.int .i64 x.n)).setCell ⟨w.heap.size, 2, none⟩ (.slice A2 x.exprs.length c2)).setCell ⟨w.heap.size, 3, none⟩ (.slice A3 x.body.length c3)).setCell ⟨w.heap.size, 4, none⟩ (.slice A4 x.els.length c4)) := ((((((Chg.refl (fun k => k = w.heap.size) ((w2.alloc (.cells #[.int .i64 x.op, .int .i64 x.n, .slice A2 x.exprs.length c2, .slice A3 x.body.length c3, .slice A4 x.els.length c4] 101)).setCell ⟨br, 1, none⟩ (.int .i64 dp))).setCell (p := ⟨w.heap.size, 0, none⟩) (fun _ => rfl) (.int .i64 x.op)).setCell (p := ⟨w.heap.size, 1, none⟩) (fun _ => rfl) (.int .i64 x.n)).setCell (p := ⟨w.heap.size, 2, none⟩) (fun _ => rfl) (.slice A2 x.exprs.length c2)).setCell (p := ⟨w.heap.size, 3, none⟩) (fun _ => rfl) (.slice A3 x.body.length c3)).setCell (p := ⟨w.heap.size, 4, none⟩) (fun _ => rfl) (.slice A4 x.els.length c4))
    have HS4 := Lib.hid (hs3.keep hset (fun q => by have := HBR.out; omega) (fun k q => by have := hs3.br_ge; have := HBR.out; omega))
    have hcc := (hc.trans hB (fun _ _ q => q.elim)).trans hc3 (fun _ _ e => e)
    have HC4 := Lib.hid ((HC1.out.trans hcc (fun _ _ e => e)).trans hset (fun i hi q => by omega))
    have r0 := free_at hres 0
    have s_0 : ((w2.alloc (.cells #[.int .i64 x.op, .int .i64 x.n, .slice A2 x.exprs.length c2, .slice A3 x.body.length c3, .slice A4 x.els.length c4] 101)).setCell ⟨br, 1, none⟩ (.int .i64 dp)).cell? ⟨w.heap.size, 0, none⟩ = some (.int .i64 0) := (cell_at hres 0).trans rfl
    have g_0 : ((w2.alloc (.cells #[.int .i64 x.op, .int .i64 x.n, .slice A2 x.exprs.length c2, .slice A3 x.body.length c3, .slice A4 x.els.length c4] 101)).setCell ⟨br, 1, none⟩ (.int .i64 dp)).cell? ⟨w2.heap.size, 0, none⟩ = some (.int .i64 x.op) := (cell_at hloc 0).trans rfl
    have r1 := free_at hres 1
    have s_1 : ((w2.alloc (.cells #[.int .i64 x.op, .int .i64 x.n, .slice A2 x.exprs.length c2, .slice A3 x.body.length c3, .slice A4 x.els.length c4] 101)).setCell ⟨br, 1, none⟩ (.int .i64 dp)).cell? ⟨w.heap.size, 1, none⟩ = some (.int .i64 0) := (cell_at hres 1).trans rfl
    have g_1 : ((w2.alloc (.cells #[.int .i64 x.op, .int .i64 x.n, .slice A2 x.exprs.length c2, .slice A3 x.body.length c3, .slice A4 x.els.length c4] 101)).setCell ⟨br, 1, none⟩ (.int .i64 dp)).cell? ⟨w2.heap.size, 1, none⟩ = some (.int .i64 x.n) := (cell_at hloc 1).trans rfl
    have r2 := free_at hres 2
    have s_2 : ((w2.alloc (.cells #[.int .i64 x.op, .int .i64 x.n, .slice A2 x.exprs.length c2, .slice A3 x.body.length c3, .slice A4 x.els.length c4] 101)).setCell ⟨br, 1, none⟩ (.int .i64 dp)).cell? ⟨w.heap.size, 2, none⟩ = some (.slice none 0 0) := (cell_at hres 2).trans rfl
    have g_2 : ((w2.alloc (.cells #[.int .i64 x.op, .int .i64 x.n, .slice A2 x.exprs.length c2, .slice A3 x.body.length c3, .slice A4 x.els.length c4] 101)).setCell ⟨br, 1, none⟩ (.int .i64 dp)).cell? ⟨w2.heap.size, 2, none⟩ = some (.slice A2 x.exprs.length c2) := (cell_at hloc 2).trans rfl
    have r3 := free_at hres 3
    have s_3 : ((w2.alloc (.cells #[.int .i64 x.op, .int .i64 x.n, .slice A2 x.exprs.length c2, .slice A3 x.body.length c3, .slice A4 x.els.length c4] 101)).setCell ⟨br, 1, none⟩ (.int .i64 dp)).cell? ⟨w.heap.size, 3, none⟩ = some (.slice none 0 0) := (cell_at hres 3).trans rfl
    have g_3 : ((w2.alloc (.cells #[.int .i64 x.op, .int .i64 x.n, .slice A2 x.exprs.length c2, .slice A3 x.body.length c3, .slice A4 x.els.length c4] 101)).setCell ⟨br, 1, none⟩ (.int .i64 dp)).cell? ⟨w2.heap.size, 3, none⟩ = some (.slice A3 x.body.length c3) := (cell_at hloc 3).trans rfl
    have r4 := free_at hres 4
    have s_4 : ((w2.alloc (.cells #[.int .i64 x.op, .int .i64 x.n, .slice A2 x.exprs.length c2, .slice A3 x.body.length c3, .slice A4 x.els.length c4] 101)).setCell ⟨br, 1, none⟩ (.int .i64 dp)).cell? ⟨w.heap.size, 4, none⟩ = some (.slice none 0 0) := (cell_at hres 4).trans rfl
    have g_4 : ((w2.alloc (.cells #[.int .i64 x.op, .int .i64 x.n, .slice A2 x.exprs.length c2, .slice A3 x.body.length c3, .slice A4 x.els.length c4] 101)).setCell ⟨br, 1, none⟩ (.int .i64 dp)).cell? ⟨w2.heap.size, 4, none⟩ = some (.slice A4 x.els.length c4) := (cell_at hloc 4).trans rfl
    have hz0 : (((w2.alloc (.cells #[.int .i64 x.op, .int .i64 x.n, .slice A2 x.exprs.length c2, .slice A3 x.body.length c3, .slice A4 x.els.length c4] 101)).setCell ⟨br, 1, none⟩ (.int .i64 dp)).setCell ⟨w.heap.size, 0, none⟩ (.int .i64 x.op)).heap[w.heap.size]? = some (.cells #[.int .i64 x.op, .int .i64 0, .slice none 0 0, .slice none 0 0, .slice none 0 0] 101 (0, 0)) := set_at hres 0 (.int .i64 x.op)
    have hz1 : ((((w2.alloc (.cells #[.int .i64 x.op, .int .i64 x.n, .slice A2 x.exprs.length c2, .slice A3 x.body.length c3, .slice A4 x.els.length c4] 101)).setCell ⟨br, 1, none⟩ (.int .i64 dp)).setCell ⟨w.heap.size, 0, none⟩ (.int .i64 x.op)).setCell ⟨w.heap.size, 1, none⟩ (.int .i64 x.n)).heap[w.heap.size]? = some (.cells #[.int .i64 x.op, .int .i64 x.n, .slice none 0 0, .slice none 0 0, .slice none 0 0] 101 (0, 0)) := set_at hz0 1 (.int .i64 x.n)
    have hz2 : (((((w2.alloc (.cells #[.int .i64 x.op, .int .i64 x.n, .slice A2 x.exprs.length c2, .slice A3 x.body.length c3, .slice A4 x.els.length c4] 101)).setCell ⟨br, 1, none⟩ (.int .i64 dp)).setCell ⟨w.heap.size, 0, none⟩ (.int .i64 x.op)).setCell ⟨w.heap.size, 1, none⟩ (.int .i64 x.n)).setCell ⟨w.heap.size, 2, none⟩ (.slice A2 x.exprs.length c2)).heap[w.heap.size]? = some (.cells #[.int .i64 x.op, .int .i64 x.n, .slice A2 x.exprs.length c2, .slice none 0 0, .slice none 0 0] 101 (0, 0)) := set_at hz1 2 (.slice A2 x.exprs.length c2)
    have hz3 : ((((((w2.alloc (.cells #[.int .i64 x.op, .int .i64 x.n, .slice A2 x.exprs.length c2, .slice A3 x.body.length c3, .slice A4 x.els.length c4] 101)).setCell ⟨br, 1, none⟩ (.int .i64 dp)).setCell ⟨w.heap.size, 0, none⟩ (.int .i64 x.op)).setCell ⟨w.heap.size, 1, none⟩ (.int .i64 x.n)).setCell ⟨w.heap.size, 2, none⟩ (.slice A2 x.exprs.length c2)).setCell ⟨w.heap.size, 3, none⟩ (.slice A3 x.body.length c3)).heap[w.heap.size]? = some (.cells #[.int .i64 x.op, .int .i64 x.n, .slice A2 x.exprs.length c2, .slice A3 x.body.length c3, .slice none 0 0] 101 (0, 0)) := set_at hz2 3 (.slice A3 x.body.length c3)
    have hz4 : (((((((w2.alloc (.cells #[.int .i64 x.op, .int .i64 x.n, .slice A2 x.exprs.length c2, .slice A3 x.body.length c3, .slice A4 x.els.length c4] 101)).setCell ⟨br, 1, none⟩ (.int .i64 dp)).setCell ⟨w.heap.size, 0, none⟩ (.int .i64 x.op)).setCell ⟨w.heap.size, 1, none⟩ (.int .i64 x.n)).setCell ⟨w.heap.size, 2, none⟩ (.slice A2 x.exprs.length c2)).setCell ⟨w.heap.size, 3, none⟩ (.slice A3 x.body.length c3)).setCell ⟨w.heap.size, 4, none⟩ (.slice A4 x.els.length c4)).heap[w.heap.size]? = some (.cells #[.int .i64 x.op, .int .i64 x.n, .slice A2 x.exprs.length c2, .slice A3 x.body.length c3, .slice A4 x.els.length c4] 101 (0, 0)) := set_at hz3 4 (.slice A4 x.els.length c4)
    have hr : ∀ (i : Nat) (v : Value), ([.int .i64 x.op, .int .i64 x.n, .slice A2 x.exprs.length c2, .slice A3 x.body.length c3, .slice A4 x.els.length c4] : List Value)[i]? = some v → (((((((w2.alloc (.cells #[.int .i64 x.op, .int .i64 x.n, .slice A2 x.exprs.length c2, .slice A3 x.body.length c3, .slice A4 x.els.length c4] 101)).setCell ⟨br, 1, none⟩ (.int .i64 dp)).setCell ⟨w.heap.size, 0, none⟩ (.int .i64 x.op)).setCell ⟨w.heap.size, 1, none⟩ (.int .i64 x.n)).setCell ⟨w.heap.size, 2, none⟩ (.slice A2 x.exprs.length c2)).setCell ⟨w.heap.size, 3, none⟩ (.slice A3 x.body.length c3)).setCell ⟨w.heap.size, 4, none⟩ (.slice A4 x.els.length c4)).cell? ⟨w.heap.size, i, none⟩ = some v := fun i v q => by rw [cell_at hz4]; simpa using q
    clear hz0 hz1 hz2 hz3 hz4
    have HR := Lib.hid hr; clear hr
    have hlow : Chg (fun k => k < ((w.alloc (.cells #[.int .i64 0, .int .i64 0, .slice none 0 0, .slice none 0 0, .slice none 0 0] 101)).setCell ⟨br, 1, none⟩ (.int .i64 (dp + 1))).heap.size) w2 (((((((w2.alloc (.cells #[.int .i64 x.op, .int .i64 x.n, .slice A2 x.exprs.length c2, .slice A3 x.body.length c3, .slice A4 x.els.length c4] 101)).setCell ⟨br, 1, none⟩ (.int .i64 dp)).setCell ⟨w.heap.size, 0, none⟩ (.int .i64 x.op)).setCell ⟨w.heap.size, 1, none⟩ (.int .i64 x.n)).setCell ⟨w.heap.size, 2, none⟩ (.slice A2 x.exprs.length c2)).setCell ⟨w.heap.size, 3, none⟩ (.slice A3 x.body.length c3)).setCell ⟨w.heap.size, 4, none⟩ (.slice A4 x.els.length c4)) := ((hB.mono (fun _ _ q => q.elim)).trans (hc3.mono (fun k _ e => by have := HBR.out; have := HSZ.out; omega)) (fun _ _ e => e)).trans (hset.mono (fun k _ e => by have := lt_of_block HB1.out; omega)) (fun _ _ e => e)
    have HV2 := Lib.hid (HV.out.sub (new_chg hlow (g' := none) (fun k q _ => .inl q) (fun k q => by cases q)))
    clear hp hs hc he hv hB hs2 hb3 hs3 hc3 hres hloc hset hcc hlow q0 q1 q2 q3 q4
    go_wp2_with fail
    refine bodyPost_ret (v := .agg #[.int .i64 x.op, .int .i64 x.n, .slice A2 x.exprs.length c2, .slice A3 x.body.length c3, .slice A4 x.els.length c4]) (by have d0 := HR.out 0 _ rfl; have d1 := HR.out 1 _ rfl; have d2 := HR.out 2 _ rfl; have d3 := HR.out 3 _ rfl; have d4 := HR.out 4 _ rfl; simp [results, Try.results99, go_sem, d0, d1, d2, d3, d4]) rfl ?_
    rw [HT.out]
    exact ⟨_, rfl, ⟨_, rfl, HV2.out.sub (new_mono HSZ.out _ _)⟩, HS4.out, HC4.out⟩
end Go.Proofs.Ytghnaaahkbnhlaa
