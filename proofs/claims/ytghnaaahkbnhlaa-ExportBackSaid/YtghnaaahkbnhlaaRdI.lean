/-
  The walks of export's reader over types, expressions, statements: each reads as its parser says. The condition: the reader stands (RdS).
-/
import Derived.Test.YtghnaaahkbnhlaaRdH
namespace Go.Proofs.Ytghnaaahkbnhlaa
open Go.RowKit Go.Lib
set_option linter.unusedVariables false
set_option linter.unusedSimpArgs false

theorem enters97 : Enters 97 := fun args w => by simp [go_sem]
theorem enters71 : Enters 71 := fun args w => by simp [go_sem]
set_option maxRecDepth 100000 in
set_option maxHeartbeats 1600000 in
theorem rdTy_step (W0 : World) (br : Nat) (dp : Int) (inner two : Pa Ty) (htwo : ∀ l, (if 100 < dp then none else inner l) = two l) (h0 : 0 ≤ dp) (h1 : dp ≤ 101) (hcl : dp ≤ 100 → ∀ (w : World) (kc : Nat) (l : List UInt8), RdS W0 w br l (dp + 1) → w.heap[kc]? = some (.cells #[.pointer (some ⟨br, 0, none⟩)] 77 (0, 0)) → kc ≠ br → Calls Try.prog 97 #[.pointer (some ⟨kc, 0, none⟩)] w (RdP W0 br (dp + 1) w (inner l) (ValR w Ty.d))) :
    RdOne W0 br dp two Ty.d 71 := by
  intro w l h
  have hA : Chg (fun _ => False) w ((w.alloc (.cells #[.pointer (some ⟨br, 0, none⟩)] 77)).alloc (.cells #[.int .i64 0, .string ⟨#[]⟩, .string ⟨#[]⟩, .slice none 0 0, .slice none 0 0] 44)) := ((Chg.refl _ _).alloc _).alloc _
  have HBR := Lib.hid h.lt
  have HS := Lib.hid (h.keep hA id (fun _ q => q.elim))
  have hkc : ((w.alloc (.cells #[.pointer (some ⟨br, 0, none⟩)] 77)).alloc (.cells #[.int .i64 0, .string ⟨#[]⟩, .string ⟨#[]⟩, .slice none 0 0, .slice none 0 0] 44)).heap[w.heap.size]? = some (.cells #[.pointer (some ⟨br, 0, none⟩)] 77 (0, 0)) := alloc_old (alloc_at w _) _
  have HBr := Lib.hid (show ((w.alloc (.cells #[.pointer (some ⟨br, 0, none⟩)] 77)).alloc (.cells #[.int .i64 0, .string ⟨#[]⟩, .string ⟨#[]⟩, .slice none 0 0, .slice none 0 0] 44)).heap[w.heap.size + 1]? = some (.cells #[.int .i64 0, .string ⟨#[]⟩, .string ⟨#[]⟩, .slice none 0 0, .slice none 0 0] 44 (0, 0)) by have := alloc_at (w.alloc (.cells #[.pointer (some ⟨br, 0, none⟩)] 77)) (.cells #[.int .i64 0, .string ⟨#[]⟩, .string ⟨#[]⟩, .slice none 0 0, .slice none 0 0] 44); simpa using this)
  have HSZ := Lib.hid (show ((w.alloc (.cells #[.pointer (some ⟨br, 0, none⟩)] 77)).alloc (.cells #[.int .i64 0, .string ⟨#[]⟩, .string ⟨#[]⟩, .slice none 0 0, .slice none 0 0] 44)).heap.size = w.heap.size + 2 by simp)
  have HW0 := Lib.hid (show W0.heap.size ≤ w.heap.size from Nat.le_trans h.br_ge (Nat.le_of_lt h.lt))
  have HC := Lib.hid (hA.mono (S' := fun k => k = br) (fun _ _ q => q.elim))
  have hw := withinTy_any W0 ((w.alloc (.cells #[.pointer (some ⟨br, 0, none⟩)] 77)).alloc (.cells #[.int .i64 0, .string ⟨#[]⟩, .string ⟨#[]⟩, .slice none 0 0, .slice none 0 0] 44)) br dp inner 97 w.heap.size l enters97 HS.out h0 (by omega) (fun hd w' hs _ hc => hcl hd w' w.heap.size l hs (hc.heap hkc (by have := HBR.out; omega)) (by have := HBR.out; omega))
  rw [htwo l] at hw
  have HW := Lib.hid hw
  have hmf : ∀ (fn : Go.Fn) (first cap : Array Value) (w : World), (Instr.makeFunc fn first cap).run Try.prog w = .ok (.func fn first cap) w := fun _ _ _ _ => rfl
  clear h hA hkc hcl hw htwo
  go_enter Try.func71, Try.ntmps71
  go_wp2_with fail
  refine HW.out.mono ?_
  intro e w2 he
  rcases he.split with ⟨x, l2, v, hp, rfl, ⟨vs, rfl, hv⟩, hs, hc⟩ | ⟨hp, u, rfl, hc⟩
  case inr =>
    have HT := Lib.hid hp
    have HC2 := Lib.hid (HC.out.trans hc (fun _ _ e => e))
    clear hp hc he
    go_wp2_with fail
    refine ⟨rfl, ?_⟩
    rw [HT.out]
    exact ⟨_, rfl, HC2.out⟩
  have HT := Lib.hid hp
  obtain ⟨A3, c3, A4, c4, rfl, q0, q1, q2, q3, q4⟩ := Ty.opn hv
  have HV := Lib.hid hv
  have hres := hc.heap HBr.out (by have := HBR.out; omega)
  have hset : Chg (fun k => k = w.heap.size + 1) w2 (((((w2.setCell ⟨w.heap.size + 1, 0, none⟩ (.int .i64 x.kind)).setCell ⟨w.heap.size + 1, 1, none⟩ (.string x.pkg)).setCell ⟨w.heap.size + 1, 2, none⟩ (.string x.name)).setCell ⟨w.heap.size + 1, 3, none⟩ (.slice A3 x.args.length c3)).setCell ⟨w.heap.size + 1, 4, none⟩ (.slice A4 x.res.length c4)) := ((((((Chg.refl (fun k => k = w.heap.size + 1) w2).setCell (p := ⟨w.heap.size + 1, 0, none⟩) (fun _ => rfl) (.int .i64 x.kind)).setCell (p := ⟨w.heap.size + 1, 1, none⟩) (fun _ => rfl) (.string x.pkg)).setCell (p := ⟨w.heap.size + 1, 2, none⟩) (fun _ => rfl) (.string x.name)).setCell (p := ⟨w.heap.size + 1, 3, none⟩) (fun _ => rfl) (.slice A3 x.args.length c3)).setCell (p := ⟨w.heap.size + 1, 4, none⟩) (fun _ => rfl) (.slice A4 x.res.length c4))
  have HS4 := Lib.hid (hs.keep hset (fun q => by have := HBR.out; omega) (fun k q => by have := HW0.out; omega))
  have HC4 := Lib.hid ((HC.out.trans hc (fun _ _ e => e)).trans hset (fun i hi q => by omega))
  have HV2 := Lib.hid (HV.out.sub (new_chg hset (n := ((w.alloc (.cells #[.pointer (some ⟨br, 0, none⟩)] 77)).alloc (.cells #[.int .i64 0, .string ⟨#[]⟩, .string ⟨#[]⟩, .slice none 0 0, .slice none 0 0] 44)).heap.size) (g := none) (g' := none) (fun k q _ => .inl (by have := HSZ.out; omega)) (fun k q => by cases q)))
  have r0 := free_at hres 0
  have s_0 : w2.cell? ⟨w.heap.size + 1, 0, none⟩ = some (.int .i64 0) := (cell_at hres 0).trans rfl
  have r1 := free_at hres 1
  have s_1 : w2.cell? ⟨w.heap.size + 1, 1, none⟩ = some (.string ⟨#[]⟩) := (cell_at hres 1).trans rfl
  have r2 := free_at hres 2
  have s_2 : w2.cell? ⟨w.heap.size + 1, 2, none⟩ = some (.string ⟨#[]⟩) := (cell_at hres 2).trans rfl
  have r3 := free_at hres 3
  have s_3 : w2.cell? ⟨w.heap.size + 1, 3, none⟩ = some (.slice none 0 0) := (cell_at hres 3).trans rfl
  have r4 := free_at hres 4
  have s_4 : w2.cell? ⟨w.heap.size + 1, 4, none⟩ = some (.slice none 0 0) := (cell_at hres 4).trans rfl
  have hz0 : (w2.setCell ⟨w.heap.size + 1, 0, none⟩ (.int .i64 x.kind)).heap[w.heap.size + 1]? = some (.cells #[.int .i64 x.kind, .string ⟨#[]⟩, .string ⟨#[]⟩, .slice none 0 0, .slice none 0 0] 44 (0, 0)) := set_at hres 0 (.int .i64 x.kind)
  have hz1 : ((w2.setCell ⟨w.heap.size + 1, 0, none⟩ (.int .i64 x.kind)).setCell ⟨w.heap.size + 1, 1, none⟩ (.string x.pkg)).heap[w.heap.size + 1]? = some (.cells #[.int .i64 x.kind, .string x.pkg, .string ⟨#[]⟩, .slice none 0 0, .slice none 0 0] 44 (0, 0)) := set_at hz0 1 (.string x.pkg)
  have hz2 : (((w2.setCell ⟨w.heap.size + 1, 0, none⟩ (.int .i64 x.kind)).setCell ⟨w.heap.size + 1, 1, none⟩ (.string x.pkg)).setCell ⟨w.heap.size + 1, 2, none⟩ (.string x.name)).heap[w.heap.size + 1]? = some (.cells #[.int .i64 x.kind, .string x.pkg, .string x.name, .slice none 0 0, .slice none 0 0] 44 (0, 0)) := set_at hz1 2 (.string x.name)
  have hz3 : ((((w2.setCell ⟨w.heap.size + 1, 0, none⟩ (.int .i64 x.kind)).setCell ⟨w.heap.size + 1, 1, none⟩ (.string x.pkg)).setCell ⟨w.heap.size + 1, 2, none⟩ (.string x.name)).setCell ⟨w.heap.size + 1, 3, none⟩ (.slice A3 x.args.length c3)).heap[w.heap.size + 1]? = some (.cells #[.int .i64 x.kind, .string x.pkg, .string x.name, .slice A3 x.args.length c3, .slice none 0 0] 44 (0, 0)) := set_at hz2 3 (.slice A3 x.args.length c3)
  have hz4 : (((((w2.setCell ⟨w.heap.size + 1, 0, none⟩ (.int .i64 x.kind)).setCell ⟨w.heap.size + 1, 1, none⟩ (.string x.pkg)).setCell ⟨w.heap.size + 1, 2, none⟩ (.string x.name)).setCell ⟨w.heap.size + 1, 3, none⟩ (.slice A3 x.args.length c3)).setCell ⟨w.heap.size + 1, 4, none⟩ (.slice A4 x.res.length c4)).heap[w.heap.size + 1]? = some (.cells #[.int .i64 x.kind, .string x.pkg, .string x.name, .slice A3 x.args.length c3, .slice A4 x.res.length c4] 44 (0, 0)) := set_at hz3 4 (.slice A4 x.res.length c4)
  have hr : ∀ (i : Nat) (v : Value), ([.int .i64 x.kind, .string x.pkg, .string x.name, .slice A3 x.args.length c3, .slice A4 x.res.length c4] : List Value)[i]? = some v → (((((w2.setCell ⟨w.heap.size + 1, 0, none⟩ (.int .i64 x.kind)).setCell ⟨w.heap.size + 1, 1, none⟩ (.string x.pkg)).setCell ⟨w.heap.size + 1, 2, none⟩ (.string x.name)).setCell ⟨w.heap.size + 1, 3, none⟩ (.slice A3 x.args.length c3)).setCell ⟨w.heap.size + 1, 4, none⟩ (.slice A4 x.res.length c4)).cell? ⟨w.heap.size + 1, i, none⟩ = some v := fun i v q => by rw [cell_at hz4]; simpa using q
  have HR := Lib.hid hr
  clear hp hs hc he hv hset q0 q1 q2 q3 q4 hr hres hz0 hz1 hz2 hz3 hz4
  go_wp2_with fail
  refine bodyPost_ret (v := .agg #[.int .i64 x.kind, .string x.pkg, .string x.name, .slice A3 x.args.length c3, .slice A4 x.res.length c4]) (by have d0 := HR.out 0 _ rfl; have d1 := HR.out 1 _ rfl; have d2 := HR.out 2 _ rfl; have d3 := HR.out 3 _ rfl; have d4 := HR.out 4 _ rfl; simp [results, Try.results71, go_sem, d0, d1, d2, d3, d4]) rfl ?_
  rw [HT.out]
  exact ⟨_, rfl, ⟨_, rfl, HV2.out.sub (new_mono (by have := HSZ.out; omega) _ _)⟩, HS4.out, HC4.out⟩
theorem enters110 : Enters 110 := fun args w => by simp [go_sem]
theorem enters102 : Enters 102 := fun args w => by simp [go_sem]
set_option maxRecDepth 100000 in
set_option maxHeartbeats 1600000 in
theorem rdEx_step (W0 : World) (br : Nat) (dp : Int) (inner two : Pa Ex) (htwo : ∀ l, (if 100 < dp then none else inner l) = two l) (h0 : 0 ≤ dp) (h1 : dp ≤ 101) (hcl : dp ≤ 100 → ∀ (w : World) (kc : Nat) (l : List UInt8), RdS W0 w br l (dp + 1) → w.heap[kc]? = some (.cells #[.pointer (some ⟨br, 0, none⟩)] 77 (0, 0)) → kc ≠ br → Calls Try.prog 110 #[.pointer (some ⟨kc, 0, none⟩)] w (RdP W0 br (dp + 1) w (inner l) (ValR w Ex.d))) :
    RdOne W0 br dp two Ex.d 102 := by
  intro w l h
  have hA : Chg (fun _ => False) w ((w.alloc (.cells #[.pointer (some ⟨br, 0, none⟩)] 77)).alloc (.cells #[.int .i64 0, .int .i64 0, .string ⟨#[]⟩, .slice none 0 0] 132)) := ((Chg.refl _ _).alloc _).alloc _
  have HBR := Lib.hid h.lt
  have HS := Lib.hid (h.keep hA id (fun _ q => q.elim))
  have hkc : ((w.alloc (.cells #[.pointer (some ⟨br, 0, none⟩)] 77)).alloc (.cells #[.int .i64 0, .int .i64 0, .string ⟨#[]⟩, .slice none 0 0] 132)).heap[w.heap.size]? = some (.cells #[.pointer (some ⟨br, 0, none⟩)] 77 (0, 0)) := alloc_old (alloc_at w _) _
  have HBr := Lib.hid (show ((w.alloc (.cells #[.pointer (some ⟨br, 0, none⟩)] 77)).alloc (.cells #[.int .i64 0, .int .i64 0, .string ⟨#[]⟩, .slice none 0 0] 132)).heap[w.heap.size + 1]? = some (.cells #[.int .i64 0, .int .i64 0, .string ⟨#[]⟩, .slice none 0 0] 132 (0, 0)) by have := alloc_at (w.alloc (.cells #[.pointer (some ⟨br, 0, none⟩)] 77)) (.cells #[.int .i64 0, .int .i64 0, .string ⟨#[]⟩, .slice none 0 0] 132); simpa using this)
  have HSZ := Lib.hid (show ((w.alloc (.cells #[.pointer (some ⟨br, 0, none⟩)] 77)).alloc (.cells #[.int .i64 0, .int .i64 0, .string ⟨#[]⟩, .slice none 0 0] 132)).heap.size = w.heap.size + 2 by simp)
  have HW0 := Lib.hid (show W0.heap.size ≤ w.heap.size from Nat.le_trans h.br_ge (Nat.le_of_lt h.lt))
  have HC := Lib.hid (hA.mono (S' := fun k => k = br) (fun _ _ q => q.elim))
  have hw := withinEx_any W0 ((w.alloc (.cells #[.pointer (some ⟨br, 0, none⟩)] 77)).alloc (.cells #[.int .i64 0, .int .i64 0, .string ⟨#[]⟩, .slice none 0 0] 132)) br dp inner 110 w.heap.size l enters110 HS.out h0 (by omega) (fun hd w' hs _ hc => hcl hd w' w.heap.size l hs (hc.heap hkc (by have := HBR.out; omega)) (by have := HBR.out; omega))
  rw [htwo l] at hw
  have HW := Lib.hid hw
  have hmf : ∀ (fn : Go.Fn) (first cap : Array Value) (w : World), (Instr.makeFunc fn first cap).run Try.prog w = .ok (.func fn first cap) w := fun _ _ _ _ => rfl
  clear h hA hkc hcl hw htwo
  go_enter Try.func102, Try.ntmps102
  go_wp2_with fail
  refine HW.out.mono ?_
  intro e w2 he
  rcases he.split with ⟨x, l2, v, hp, rfl, ⟨vs, rfl, hv⟩, hs, hc⟩ | ⟨hp, u, rfl, hc⟩
  case inr =>
    have HT := Lib.hid hp
    have HC2 := Lib.hid (HC.out.trans hc (fun _ _ e => e))
    clear hp hc he
    go_wp2_with fail
    refine ⟨rfl, ?_⟩
    rw [HT.out]
    exact ⟨_, rfl, HC2.out⟩
  have HT := Lib.hid hp
  obtain ⟨A3, c3, rfl, q0, q1, q2, q3⟩ := Ex.opn hv
  have HV := Lib.hid hv
  have hres := hc.heap HBr.out (by have := HBR.out; omega)
  have hset : Chg (fun k => k = w.heap.size + 1) w2 ((((w2.setCell ⟨w.heap.size + 1, 0, none⟩ (.int .i64 x.op)).setCell ⟨w.heap.size + 1, 1, none⟩ (.int .i64 x.n)).setCell ⟨w.heap.size + 1, 2, none⟩ (.string x.name)).setCell ⟨w.heap.size + 1, 3, none⟩ (.slice A3 x.kids.length c3)) := (((((Chg.refl (fun k => k = w.heap.size + 1) w2).setCell (p := ⟨w.heap.size + 1, 0, none⟩) (fun _ => rfl) (.int .i64 x.op)).setCell (p := ⟨w.heap.size + 1, 1, none⟩) (fun _ => rfl) (.int .i64 x.n)).setCell (p := ⟨w.heap.size + 1, 2, none⟩) (fun _ => rfl) (.string x.name)).setCell (p := ⟨w.heap.size + 1, 3, none⟩) (fun _ => rfl) (.slice A3 x.kids.length c3))
  have HS4 := Lib.hid (hs.keep hset (fun q => by have := HBR.out; omega) (fun k q => by have := HW0.out; omega))
  have HC4 := Lib.hid ((HC.out.trans hc (fun _ _ e => e)).trans hset (fun i hi q => by omega))
  have HV2 := Lib.hid (HV.out.sub (new_chg hset (n := ((w.alloc (.cells #[.pointer (some ⟨br, 0, none⟩)] 77)).alloc (.cells #[.int .i64 0, .int .i64 0, .string ⟨#[]⟩, .slice none 0 0] 132)).heap.size) (g := none) (g' := none) (fun k q _ => .inl (by have := HSZ.out; omega)) (fun k q => by cases q)))
  have r0 := free_at hres 0
  have s_0 : w2.cell? ⟨w.heap.size + 1, 0, none⟩ = some (.int .i64 0) := (cell_at hres 0).trans rfl
  have r1 := free_at hres 1
  have s_1 : w2.cell? ⟨w.heap.size + 1, 1, none⟩ = some (.int .i64 0) := (cell_at hres 1).trans rfl
  have r2 := free_at hres 2
  have s_2 : w2.cell? ⟨w.heap.size + 1, 2, none⟩ = some (.string ⟨#[]⟩) := (cell_at hres 2).trans rfl
  have r3 := free_at hres 3
  have s_3 : w2.cell? ⟨w.heap.size + 1, 3, none⟩ = some (.slice none 0 0) := (cell_at hres 3).trans rfl
  have hz0 : (w2.setCell ⟨w.heap.size + 1, 0, none⟩ (.int .i64 x.op)).heap[w.heap.size + 1]? = some (.cells #[.int .i64 x.op, .int .i64 0, .string ⟨#[]⟩, .slice none 0 0] 132 (0, 0)) := set_at hres 0 (.int .i64 x.op)
  have hz1 : ((w2.setCell ⟨w.heap.size + 1, 0, none⟩ (.int .i64 x.op)).setCell ⟨w.heap.size + 1, 1, none⟩ (.int .i64 x.n)).heap[w.heap.size + 1]? = some (.cells #[.int .i64 x.op, .int .i64 x.n, .string ⟨#[]⟩, .slice none 0 0] 132 (0, 0)) := set_at hz0 1 (.int .i64 x.n)
  have hz2 : (((w2.setCell ⟨w.heap.size + 1, 0, none⟩ (.int .i64 x.op)).setCell ⟨w.heap.size + 1, 1, none⟩ (.int .i64 x.n)).setCell ⟨w.heap.size + 1, 2, none⟩ (.string x.name)).heap[w.heap.size + 1]? = some (.cells #[.int .i64 x.op, .int .i64 x.n, .string x.name, .slice none 0 0] 132 (0, 0)) := set_at hz1 2 (.string x.name)
  have hz3 : ((((w2.setCell ⟨w.heap.size + 1, 0, none⟩ (.int .i64 x.op)).setCell ⟨w.heap.size + 1, 1, none⟩ (.int .i64 x.n)).setCell ⟨w.heap.size + 1, 2, none⟩ (.string x.name)).setCell ⟨w.heap.size + 1, 3, none⟩ (.slice A3 x.kids.length c3)).heap[w.heap.size + 1]? = some (.cells #[.int .i64 x.op, .int .i64 x.n, .string x.name, .slice A3 x.kids.length c3] 132 (0, 0)) := set_at hz2 3 (.slice A3 x.kids.length c3)
  have hr : ∀ (i : Nat) (v : Value), ([.int .i64 x.op, .int .i64 x.n, .string x.name, .slice A3 x.kids.length c3] : List Value)[i]? = some v → ((((w2.setCell ⟨w.heap.size + 1, 0, none⟩ (.int .i64 x.op)).setCell ⟨w.heap.size + 1, 1, none⟩ (.int .i64 x.n)).setCell ⟨w.heap.size + 1, 2, none⟩ (.string x.name)).setCell ⟨w.heap.size + 1, 3, none⟩ (.slice A3 x.kids.length c3)).cell? ⟨w.heap.size + 1, i, none⟩ = some v := fun i v q => by rw [cell_at hz3]; simpa using q
  have HR := Lib.hid hr
  clear hp hs hc he hv hset q0 q1 q2 q3 hr hres hz0 hz1 hz2 hz3
  go_wp2_with fail
  refine bodyPost_ret (v := .agg #[.int .i64 x.op, .int .i64 x.n, .string x.name, .slice A3 x.kids.length c3]) (by have d0 := HR.out 0 _ rfl; have d1 := HR.out 1 _ rfl; have d2 := HR.out 2 _ rfl; have d3 := HR.out 3 _ rfl; simp [results, Try.results102, go_sem, d0, d1, d2, d3]) rfl ?_
  rw [HT.out]
  exact ⟨_, rfl, ⟨_, rfl, HV2.out.sub (new_mono (by have := HSZ.out; omega) _ _)⟩, HS4.out, HC4.out⟩
theorem enters100 : Enters 100 := fun args w => by simp [go_sem]
theorem enters76 : Enters 76 := fun args w => by simp [go_sem]
set_option maxRecDepth 100000 in
set_option maxHeartbeats 1600000 in
theorem rdSt_step (W0 : World) (br : Nat) (dp : Int) (inner two : Pa St) (htwo : ∀ l, (if 100 < dp then none else inner l) = two l) (h0 : 0 ≤ dp) (h1 : dp ≤ 101) (hcl : dp ≤ 100 → ∀ (w : World) (kc : Nat) (l : List UInt8), RdS W0 w br l (dp + 1) → w.heap[kc]? = some (.cells #[.pointer (some ⟨br, 0, none⟩)] 77 (0, 0)) → kc ≠ br → Calls Try.prog 100 #[.pointer (some ⟨kc, 0, none⟩)] w (RdP W0 br (dp + 1) w (inner l) (ValR w St.d))) :
    RdOne W0 br dp two St.d 76 := by
  intro w l h
  have hA : Chg (fun _ => False) w ((w.alloc (.cells #[.pointer (some ⟨br, 0, none⟩)] 77)).alloc (.cells #[.int .i64 0, .int .i64 0, .slice none 0 0, .slice none 0 0, .slice none 0 0] 101)) := ((Chg.refl _ _).alloc _).alloc _
  have HBR := Lib.hid h.lt
  have HS := Lib.hid (h.keep hA id (fun _ q => q.elim))
  have hkc : ((w.alloc (.cells #[.pointer (some ⟨br, 0, none⟩)] 77)).alloc (.cells #[.int .i64 0, .int .i64 0, .slice none 0 0, .slice none 0 0, .slice none 0 0] 101)).heap[w.heap.size]? = some (.cells #[.pointer (some ⟨br, 0, none⟩)] 77 (0, 0)) := alloc_old (alloc_at w _) _
  have HBr := Lib.hid (show ((w.alloc (.cells #[.pointer (some ⟨br, 0, none⟩)] 77)).alloc (.cells #[.int .i64 0, .int .i64 0, .slice none 0 0, .slice none 0 0, .slice none 0 0] 101)).heap[w.heap.size + 1]? = some (.cells #[.int .i64 0, .int .i64 0, .slice none 0 0, .slice none 0 0, .slice none 0 0] 101 (0, 0)) by have := alloc_at (w.alloc (.cells #[.pointer (some ⟨br, 0, none⟩)] 77)) (.cells #[.int .i64 0, .int .i64 0, .slice none 0 0, .slice none 0 0, .slice none 0 0] 101); simpa using this)
  have HSZ := Lib.hid (show ((w.alloc (.cells #[.pointer (some ⟨br, 0, none⟩)] 77)).alloc (.cells #[.int .i64 0, .int .i64 0, .slice none 0 0, .slice none 0 0, .slice none 0 0] 101)).heap.size = w.heap.size + 2 by simp)
  have HW0 := Lib.hid (show W0.heap.size ≤ w.heap.size from Nat.le_trans h.br_ge (Nat.le_of_lt h.lt))
  have HC := Lib.hid (hA.mono (S' := fun k => k = br) (fun _ _ q => q.elim))
  have hw := withinSt_any W0 ((w.alloc (.cells #[.pointer (some ⟨br, 0, none⟩)] 77)).alloc (.cells #[.int .i64 0, .int .i64 0, .slice none 0 0, .slice none 0 0, .slice none 0 0] 101)) br dp inner 100 w.heap.size l enters100 HS.out h0 (by omega) (fun hd w' hs _ hc => hcl hd w' w.heap.size l hs (hc.heap hkc (by have := HBR.out; omega)) (by have := HBR.out; omega))
  rw [htwo l] at hw
  have HW := Lib.hid hw
  have hmf : ∀ (fn : Go.Fn) (first cap : Array Value) (w : World), (Instr.makeFunc fn first cap).run Try.prog w = .ok (.func fn first cap) w := fun _ _ _ _ => rfl
  clear h hA hkc hcl hw htwo
  go_enter Try.func76, Try.ntmps76
  go_wp2_with fail
  refine HW.out.mono ?_
  intro e w2 he
  rcases he.split with ⟨x, l2, v, hp, rfl, ⟨vs, rfl, hv⟩, hs, hc⟩ | ⟨hp, u, rfl, hc⟩
  case inr =>
    have HT := Lib.hid hp
    have HC2 := Lib.hid (HC.out.trans hc (fun _ _ e => e))
    clear hp hc he
    go_wp2_with fail
    refine ⟨rfl, ?_⟩
    rw [HT.out]
    exact ⟨_, rfl, HC2.out⟩
  have HT := Lib.hid hp
  obtain ⟨A2, c2, A3, c3, A4, c4, rfl, q0, q1, q2, q3, q4⟩ := St.opn hv
  have HV := Lib.hid hv
  have hres := hc.heap HBr.out (by have := HBR.out; omega)
  have hset : Chg (fun k => k = w.heap.size + 1) w2 (((((w2.setCell ⟨w.heap.size + 1, 0, none⟩ (.int .i64 x.op)).setCell ⟨w.heap.size + 1, 1, none⟩ (.int .i64 x.n)).setCell ⟨w.heap.size + 1, 2, none⟩ (.slice A2 x.exprs.length c2)).setCell ⟨w.heap.size + 1, 3, none⟩ (.slice A3 x.body.length c3)).setCell ⟨w.heap.size + 1, 4, none⟩ (.slice A4 x.els.length c4)) := ((((((Chg.refl (fun k => k = w.heap.size + 1) w2).setCell (p := ⟨w.heap.size + 1, 0, none⟩) (fun _ => rfl) (.int .i64 x.op)).setCell (p := ⟨w.heap.size + 1, 1, none⟩) (fun _ => rfl) (.int .i64 x.n)).setCell (p := ⟨w.heap.size + 1, 2, none⟩) (fun _ => rfl) (.slice A2 x.exprs.length c2)).setCell (p := ⟨w.heap.size + 1, 3, none⟩) (fun _ => rfl) (.slice A3 x.body.length c3)).setCell (p := ⟨w.heap.size + 1, 4, none⟩) (fun _ => rfl) (.slice A4 x.els.length c4))
  have HS4 := Lib.hid (hs.keep hset (fun q => by have := HBR.out; omega) (fun k q => by have := HW0.out; omega))
  have HC4 := Lib.hid ((HC.out.trans hc (fun _ _ e => e)).trans hset (fun i hi q => by omega))
  have HV2 := Lib.hid (HV.out.sub (new_chg hset (n := ((w.alloc (.cells #[.pointer (some ⟨br, 0, none⟩)] 77)).alloc (.cells #[.int .i64 0, .int .i64 0, .slice none 0 0, .slice none 0 0, .slice none 0 0] 101)).heap.size) (g := none) (g' := none) (fun k q _ => .inl (by have := HSZ.out; omega)) (fun k q => by cases q)))
  have r0 := free_at hres 0
  have s_0 : w2.cell? ⟨w.heap.size + 1, 0, none⟩ = some (.int .i64 0) := (cell_at hres 0).trans rfl
  have r1 := free_at hres 1
  have s_1 : w2.cell? ⟨w.heap.size + 1, 1, none⟩ = some (.int .i64 0) := (cell_at hres 1).trans rfl
  have r2 := free_at hres 2
  have s_2 : w2.cell? ⟨w.heap.size + 1, 2, none⟩ = some (.slice none 0 0) := (cell_at hres 2).trans rfl
  have r3 := free_at hres 3
  have s_3 : w2.cell? ⟨w.heap.size + 1, 3, none⟩ = some (.slice none 0 0) := (cell_at hres 3).trans rfl
  have r4 := free_at hres 4
  have s_4 : w2.cell? ⟨w.heap.size + 1, 4, none⟩ = some (.slice none 0 0) := (cell_at hres 4).trans rfl
  have hz0 : (w2.setCell ⟨w.heap.size + 1, 0, none⟩ (.int .i64 x.op)).heap[w.heap.size + 1]? = some (.cells #[.int .i64 x.op, .int .i64 0, .slice none 0 0, .slice none 0 0, .slice none 0 0] 101 (0, 0)) := set_at hres 0 (.int .i64 x.op)
  have hz1 : ((w2.setCell ⟨w.heap.size + 1, 0, none⟩ (.int .i64 x.op)).setCell ⟨w.heap.size + 1, 1, none⟩ (.int .i64 x.n)).heap[w.heap.size + 1]? = some (.cells #[.int .i64 x.op, .int .i64 x.n, .slice none 0 0, .slice none 0 0, .slice none 0 0] 101 (0, 0)) := set_at hz0 1 (.int .i64 x.n)
  have hz2 : (((w2.setCell ⟨w.heap.size + 1, 0, none⟩ (.int .i64 x.op)).setCell ⟨w.heap.size + 1, 1, none⟩ (.int .i64 x.n)).setCell ⟨w.heap.size + 1, 2, none⟩ (.slice A2 x.exprs.length c2)).heap[w.heap.size + 1]? = some (.cells #[.int .i64 x.op, .int .i64 x.n, .slice A2 x.exprs.length c2, .slice none 0 0, .slice none 0 0] 101 (0, 0)) := set_at hz1 2 (.slice A2 x.exprs.length c2)
  have hz3 : ((((w2.setCell ⟨w.heap.size + 1, 0, none⟩ (.int .i64 x.op)).setCell ⟨w.heap.size + 1, 1, none⟩ (.int .i64 x.n)).setCell ⟨w.heap.size + 1, 2, none⟩ (.slice A2 x.exprs.length c2)).setCell ⟨w.heap.size + 1, 3, none⟩ (.slice A3 x.body.length c3)).heap[w.heap.size + 1]? = some (.cells #[.int .i64 x.op, .int .i64 x.n, .slice A2 x.exprs.length c2, .slice A3 x.body.length c3, .slice none 0 0] 101 (0, 0)) := set_at hz2 3 (.slice A3 x.body.length c3)
  have hz4 : (((((w2.setCell ⟨w.heap.size + 1, 0, none⟩ (.int .i64 x.op)).setCell ⟨w.heap.size + 1, 1, none⟩ (.int .i64 x.n)).setCell ⟨w.heap.size + 1, 2, none⟩ (.slice A2 x.exprs.length c2)).setCell ⟨w.heap.size + 1, 3, none⟩ (.slice A3 x.body.length c3)).setCell ⟨w.heap.size + 1, 4, none⟩ (.slice A4 x.els.length c4)).heap[w.heap.size + 1]? = some (.cells #[.int .i64 x.op, .int .i64 x.n, .slice A2 x.exprs.length c2, .slice A3 x.body.length c3, .slice A4 x.els.length c4] 101 (0, 0)) := set_at hz3 4 (.slice A4 x.els.length c4)
  have hr : ∀ (i : Nat) (v : Value), ([.int .i64 x.op, .int .i64 x.n, .slice A2 x.exprs.length c2, .slice A3 x.body.length c3, .slice A4 x.els.length c4] : List Value)[i]? = some v → (((((w2.setCell ⟨w.heap.size + 1, 0, none⟩ (.int .i64 x.op)).setCell ⟨w.heap.size + 1, 1, none⟩ (.int .i64 x.n)).setCell ⟨w.heap.size + 1, 2, none⟩ (.slice A2 x.exprs.length c2)).setCell ⟨w.heap.size + 1, 3, none⟩ (.slice A3 x.body.length c3)).setCell ⟨w.heap.size + 1, 4, none⟩ (.slice A4 x.els.length c4)).cell? ⟨w.heap.size + 1, i, none⟩ = some v := fun i v q => by rw [cell_at hz4]; simpa using q
  have HR := Lib.hid hr
  clear hp hs hc he hv hset q0 q1 q2 q3 q4 hr hres hz0 hz1 hz2 hz3 hz4
  go_wp2_with fail
  refine bodyPost_ret (v := .agg #[.int .i64 x.op, .int .i64 x.n, .slice A2 x.exprs.length c2, .slice A3 x.body.length c3, .slice A4 x.els.length c4]) (by have d0 := HR.out 0 _ rfl; have d1 := HR.out 1 _ rfl; have d2 := HR.out 2 _ rfl; have d3 := HR.out 3 _ rfl; have d4 := HR.out 4 _ rfl; simp [results, Try.results76, go_sem, d0, d1, d2, d3, d4]) rfl ?_
  rw [HT.out]
  exact ⟨_, rfl, ⟨_, rfl, HV2.out.sub (new_mono (by have := HSZ.out; omega) _ _)⟩, HS4.out, HC4.out⟩
theorem rdTy_one (W0 : World) (br : Nat) : ∀ (d : Nat), d ≤ 101 → RdOne W0 br (101 - (d : Int)) (typP d) Ty.d 71
  | 0, _ => (rdTy_step W0 br _ (fun _ => none) _ (fun l => by rw [if_pos (by omega)]; rfl) (by omega) (by omega) (fun hd => absurd hd (by omega)))
  | d + 1, hd => by
    have ih := rdTy_one W0 br d (by omega)
    have e : (101 - ((d + 1 : Nat) : Int)) + 1 = 101 - (d : Int) := by omega
    refine (rdTy_step W0 br _ (typI d) _ (fun l => by rw [if_neg (by omega)]; rfl) (by omega) (by omega) (fun _ w kc l hs hk hkb => ?_))
    rw [e] at hs ⊢
    exact typ1_any W0 w br kc _ d enters71 ih l hs hk hkb
theorem rdEx_one (W0 : World) (br : Nat) : ∀ (d : Nat), d ≤ 101 → RdOne W0 br (101 - (d : Int)) (exprP d) Ex.d 102
  | 0, _ => (rdEx_step W0 br _ (fun _ => none) _ (fun l => by rw [if_pos (by omega)]; rfl) (by omega) (by omega) (fun hd => absurd hd (by omega)))
  | d + 1, hd => by
    have ih := rdEx_one W0 br d (by omega)
    have e : (101 - ((d + 1 : Nat) : Int)) + 1 = 101 - (d : Int) := by omega
    refine (rdEx_step W0 br _ (exprI d) _ (fun l => by rw [if_neg (by omega)]; rfl) (by omega) (by omega) (fun _ w kc l hs hk hkb => ?_))
    rw [e] at hs ⊢
    exact expr1_any W0 w br kc _ d enters102 ih l hs hk hkb
theorem rdSt_one (W0 : World) (br : Nat) : ∀ (d : Nat), d ≤ 101 → RdOne W0 br (101 - (d : Int)) (statP d) St.d 76
  | 0, _ => (rdSt_step W0 br _ (fun _ => none) _ (fun l => by rw [if_pos (by omega)]; rfl) (by omega) (by omega) (fun hd => absurd hd (by omega)))
  | d + 1, hd => by
    have ih := rdSt_one W0 br d (by omega)
    have e : (101 - ((d + 1 : Nat) : Int)) + 1 = 101 - (d : Int) := by omega
    refine (rdSt_step W0 br _ (statI d) _ (fun l => by rw [if_neg (by omega)]; rfl) (by omega) (by omega) (fun _ w kc l hs hk hkb => ?_))
    rw [e] at hs ⊢
    exact stat1_any W0 w br kc _ d enters102 (rdEx_one W0 br d (by omega)) enters76 ih enters76 ih l hs hk hkb
end Go.Proofs.Ytghnaaahkbnhlaa
