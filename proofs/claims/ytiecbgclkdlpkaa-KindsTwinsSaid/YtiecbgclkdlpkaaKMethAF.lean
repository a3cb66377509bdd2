/-
  Methods$2, in free memory.
-/
import Derived.Test.YtiecbgclkdlpkaaKCopiedF
import Derived.Test.YtiecbgclkdlpkaaKMethA
namespace Go.Proofs.Ytiecbgclkdlpkaa.fr
open Go.RowKit
set_option linter.unusedVariables false
set_option linter.unusedSimpArgs false
attribute [local irreducible] wpStill wpOrd wpT

set_option maxRecDepth 100000 in
set_option maxHeartbeats 3200000 in
theorem meth2_any (w : World) (f : Fld) (vs : List Value) (hv : Vals w f.d vs) (hz : f.type.sz ≤ 1000000) : Calls Try.prog 63 #[.agg vs.toArray] w (NewV w Fld.d f) := by
  have hv0 := hv
  obtain ⟨A4, c4, A5, c5, rfl, q0, q1, q2, q3, q4, q5⟩ := Fld.opn hv
  have HB := Lib.hid (show Below w.heap.size w ((w.alloc (.cells #[.string f.name, .int .i64 f.type.kind, .string f.type.pkg, .string f.type.name, .slice A4 f.type.args.length c4, .slice A5 f.type.res.length c5] 56)).alloc (.cells #[.string ⟨#[]⟩, .int .i64 0, .string ⟨#[]⟩, .string ⟨#[]⟩, .slice none 0 0, .slice none 0 0] 56)) from ((Below.refl w.heap.size w).alloc (Nat.le_refl _) _).alloc (by simp) _)
  have HS := Lib.hid (show ((w.alloc (.cells #[.string f.name, .int .i64 f.type.kind, .string f.type.pkg, .string f.type.name, .slice A4 f.type.args.length c4, .slice A5 f.type.res.length c5] 56)).alloc (.cells #[.string ⟨#[]⟩, .int .i64 0, .string ⟨#[]⟩, .string ⟨#[]⟩, .slice none 0 0, .slice none 0 0] 56)).heap[w.heap.size]? = some (.cells #[.string f.name, .int .i64 f.type.kind, .string f.type.pkg, .string f.type.name, .slice A4 f.type.args.length c4, .slice A5 f.type.res.length c5] 56 (0, 0)) from alloc_old (alloc_at w _) _)
  have hr := alloc_at (w.alloc (.cells #[.string f.name, .int .i64 f.type.kind, .string f.type.pkg, .string f.type.name, .slice A4 f.type.args.length c4, .slice A5 f.type.res.length c5] 56)) (.cells #[.string ⟨#[]⟩, .int .i64 0, .string ⟨#[]⟩, .string ⟨#[]⟩, .slice none 0 0, .slice none 0 0] 56)
  rw [World.size_alloc] at hr
  have HR := Lib.hid (show ((w.alloc (.cells #[.string f.name, .int .i64 f.type.kind, .string f.type.pkg, .string f.type.name, .slice A4 f.type.args.length c4, .slice A5 f.type.res.length c5] 56)).alloc (.cells #[.string ⟨#[]⟩, .int .i64 0, .string ⟨#[]⟩, .string ⟨#[]⟩, .slice none 0 0, .slice none 0 0] 56)).heap[w.heap.size + 1]? = some (.cells #[.string ⟨#[]⟩, .int .i64 0, .string ⟨#[]⟩, .string ⟨#[]⟩, .slice none 0 0, .slice none 0 0] 56 (0, 0)) from hr)
  have HC := Lib.hid (copTy f.type hz ((w.alloc (.cells #[.string f.name, .int .i64 f.type.kind, .string f.type.pkg, .string f.type.name, .slice A4 f.type.args.length c4, .slice A5 f.type.res.length c5] 56)).alloc (.cells #[.string ⟨#[]⟩, .int .i64 0, .string ⟨#[]⟩, .string ⟨#[]⟩, .slice none 0 0, .slice none 0 0] 56)).drew _ ((Ty.shut (w := w) (t := f.type) q1 q2 q3 q4 q5).sub (Below.sub HB.out.drew)))
  have Q0 := Lib.hid q0
  clear hv hv0 q0 q1 q2 q3 q4 q5 hr
  go_enter Try.func63, Try.ntmps63
  go_wp2_with fail
  obtain ⟨wz, hz⟩ : ∃ x, x = ((w.alloc (.cells #[.string f.name, .int .i64 f.type.kind, .string f.type.pkg, .string f.type.name, .slice A4 f.type.args.length c4, .slice A5 f.type.res.length c5] 56)).alloc (.cells #[.string ⟨#[]⟩, .int .i64 0, .string ⟨#[]⟩, .string ⟨#[]⟩, .slice none 0 0, .slice none 0 0] 56)) := ⟨_, rfl⟩
  have hb := HB.out; have hs := HS.out; have hr := HR.out; have hc := HC.out
  rw [← hz] at hb hs hr hc
  rw [← hz]
  clear hz HB HS HR HC
  have HB := Lib.hid hb; have HS := Lib.hid hs; have HR := Lib.hid hr; have HC := Lib.hid hc; have HZS := Lib.hid (lt_of_block hr)
  clear hb hs hr hc
  refine wp_region_otN (fun wS => Chg (fun j => j = w.heap.size + 1) wz wS) (.get 0 (.get 1 (.get 2 (.get 3 (.one 4 (.get 5 (.one 6 .done))))))) (by kernel_rfl) (by kernel_rfl) (Chg.refl _ _).drew ?_
  apply wpT_get rfl
  · go_simp
  · intro wS hS
    go_simp
    try rfl
  intro K hK
  go_simp
  refine hK _ ?_
  clear hK K
  apply wpT_get rfl
  · go_simp
  · intro wS hS
    have x0 := (cell_at (hS.heap HS.out (by show ¬ _ = _; omega)) 0).trans rfl
    go_simp
    try rfl
  intro K hK
  go_simp
  refine hK _ ?_
  clear hK K
  apply wpT_get rfl
  · go_simp
  · intro wS hS
    go_simp
    try rfl
  intro K hK
  go_simp
  refine hK _ ?_
  clear hK K
  apply wpT_get rfl
  · go_simp
  · intro wS hS
    have x1 := (cell_at (hS.heap HS.out (by show ¬ _ = _; omega)) 1).trans rfl
    have x2 := (cell_at (hS.heap HS.out (by show ¬ _ = _; omega)) 2).trans rfl
    have x3 := (cell_at (hS.heap HS.out (by show ¬ _ = _; omega)) 3).trans rfl
    have x4 := (cell_at (hS.heap HS.out (by show ¬ _ = _; omega)) 4).trans rfl
    have x5 := (cell_at (hS.heap HS.out (by show ¬ _ = _; omega)) 5).trans rfl
    go_simp
    try rfl
  intro K hK
  go_simp
  refine hK _ ?_
  clear hK K
  refine wpT_one rfl (fun K hK => ?_)
  go_wp2_with fail
  refine HC.out.mono ?_
  obtain ⟨y, hy⟩ : ∃ y, y = f.type := ⟨_, rfl⟩
  rw [← hy]
  have HY := Lib.hid hy
  clear hy
  rintro e w2 ⟨vs2, rfl, hv2, hb2⟩
  have HV2 := Lib.hid hv2
  obtain ⟨B4, d4, B5, d5, rfl, y0, y1, y2, y3, y4⟩ := Ty.opn hv2
  have HCN := Lib.hid (show Chg (fun _ => False) wz w2 from (Chg.refl _ wz).drew.trans (below_none hb2) (fun _ _ e => e))
  have HR2 := Lib.hid (HCN.out.heap HR.out id)
  clear hv2 hb2 y0 y1 y2 y3 y4
  go_wp2_with fail
  refine hK _ _ (HCN.out.mono (fun _ _ e => e.elim)) ?_
  clear hK K
  apply wpT_get rfl
  · go_simp
  · intro wS hS
    go_simp
    try rfl
  intro K hK
  go_simp
  refine hK _ ?_
  clear hK K
  have r0_ : w2.cell? ⟨w.heap.size + 1, 0, none⟩ = some (.string ⟨#[]⟩) := (cell_at HR2.out 0).trans rfl
  have s0_ : w2.frozen? ⟨w.heap.size + 1, 0, none⟩ = false := free_at HR2.out 0
  have r1_ : w2.cell? ⟨w.heap.size + 1, 1, none⟩ = some (.int .i64 0) := (cell_at HR2.out 1).trans rfl
  have s1_ : w2.frozen? ⟨w.heap.size + 1, 1, none⟩ = false := free_at HR2.out 1
  have r2_ : w2.cell? ⟨w.heap.size + 1, 2, none⟩ = some (.string ⟨#[]⟩) := (cell_at HR2.out 2).trans rfl
  have s2_ : w2.frozen? ⟨w.heap.size + 1, 2, none⟩ = false := free_at HR2.out 2
  have r3_ : w2.cell? ⟨w.heap.size + 1, 3, none⟩ = some (.string ⟨#[]⟩) := (cell_at HR2.out 3).trans rfl
  have s3_ : w2.frozen? ⟨w.heap.size + 1, 3, none⟩ = false := free_at HR2.out 3
  have r4_ : w2.cell? ⟨w.heap.size + 1, 4, none⟩ = some (.slice none 0 0) := (cell_at HR2.out 4).trans rfl
  have s4_ : w2.frozen? ⟨w.heap.size + 1, 4, none⟩ = false := free_at HR2.out 4
  have r5_ : w2.cell? ⟨w.heap.size + 1, 5, none⟩ = some (.slice none 0 0) := (cell_at HR2.out 5).trans rfl
  have s5_ : w2.frozen? ⟨w.heap.size + 1, 5, none⟩ = false := free_at HR2.out 5
  have h0_ := HR2.out
  have h1_ : (w2.setCell ⟨w.heap.size + 1, 0, none⟩ (.string f.name)).heap[w.heap.size + 1]? = some (.cells #[.string f.name, .int .i64 0, .string ⟨#[]⟩, .string ⟨#[]⟩, .slice none 0 0, .slice none 0 0] 56 (0, 0)) := set_at h0_ 0 (.string f.name)
  have h2_ : ((w2.setCell ⟨w.heap.size + 1, 0, none⟩ (.string f.name)).setCell ⟨w.heap.size + 1, 1, none⟩ (.int .i64 y.kind)).heap[w.heap.size + 1]? = some (.cells #[.string f.name, .int .i64 y.kind, .string ⟨#[]⟩, .string ⟨#[]⟩, .slice none 0 0, .slice none 0 0] 56 (0, 0)) := set_at h1_ 1 (.int .i64 y.kind)
  have h3_ : (((w2.setCell ⟨w.heap.size + 1, 0, none⟩ (.string f.name)).setCell ⟨w.heap.size + 1, 1, none⟩ (.int .i64 y.kind)).setCell ⟨w.heap.size + 1, 2, none⟩ (.string y.pkg)).heap[w.heap.size + 1]? = some (.cells #[.string f.name, .int .i64 y.kind, .string y.pkg, .string ⟨#[]⟩, .slice none 0 0, .slice none 0 0] 56 (0, 0)) := set_at h2_ 2 (.string y.pkg)
  have h4_ : ((((w2.setCell ⟨w.heap.size + 1, 0, none⟩ (.string f.name)).setCell ⟨w.heap.size + 1, 1, none⟩ (.int .i64 y.kind)).setCell ⟨w.heap.size + 1, 2, none⟩ (.string y.pkg)).setCell ⟨w.heap.size + 1, 3, none⟩ (.string y.name)).heap[w.heap.size + 1]? = some (.cells #[.string f.name, .int .i64 y.kind, .string y.pkg, .string y.name, .slice none 0 0, .slice none 0 0] 56 (0, 0)) := set_at h3_ 3 (.string y.name)
  have h5_ : (((((w2.setCell ⟨w.heap.size + 1, 0, none⟩ (.string f.name)).setCell ⟨w.heap.size + 1, 1, none⟩ (.int .i64 y.kind)).setCell ⟨w.heap.size + 1, 2, none⟩ (.string y.pkg)).setCell ⟨w.heap.size + 1, 3, none⟩ (.string y.name)).setCell ⟨w.heap.size + 1, 4, none⟩ (.slice B4 y.args.length d4)).heap[w.heap.size + 1]? = some (.cells #[.string f.name, .int .i64 y.kind, .string y.pkg, .string y.name, .slice B4 y.args.length d4, .slice none 0 0] 56 (0, 0)) := set_at h4_ 4 (.slice B4 y.args.length d4)
  have h6_ : ((((((w2.setCell ⟨w.heap.size + 1, 0, none⟩ (.string f.name)).setCell ⟨w.heap.size + 1, 1, none⟩ (.int .i64 y.kind)).setCell ⟨w.heap.size + 1, 2, none⟩ (.string y.pkg)).setCell ⟨w.heap.size + 1, 3, none⟩ (.string y.name)).setCell ⟨w.heap.size + 1, 4, none⟩ (.slice B4 y.args.length d4)).setCell ⟨w.heap.size + 1, 5, none⟩ (.slice B5 y.res.length d5)).heap[w.heap.size + 1]? = some (.cells #[.string f.name, .int .i64 y.kind, .string y.pkg, .string y.name, .slice B4 y.args.length d4, .slice B5 y.res.length d5] 56 (0, 0)) := set_at h5_ 5 (.slice B5 y.res.length d5)
  have HD := Lib.hid h6_
  have HSET := Lib.hid (show Chg (fun j => j = w.heap.size + 1) w2 ((((((w2.setCell ⟨w.heap.size + 1, 0, none⟩ (.string f.name)).setCell ⟨w.heap.size + 1, 1, none⟩ (.int .i64 y.kind)).setCell ⟨w.heap.size + 1, 2, none⟩ (.string y.pkg)).setCell ⟨w.heap.size + 1, 3, none⟩ (.string y.name)).setCell ⟨w.heap.size + 1, 4, none⟩ (.slice B4 y.args.length d4)).setCell ⟨w.heap.size + 1, 5, none⟩ (.slice B5 y.res.length d5)) from (((((((Chg.refl (fun j => j = w.heap.size + 1) w2).setCell (p := ⟨w.heap.size + 1, 0, none⟩) (fun _ => rfl) (.string f.name)).setCell (p := ⟨w.heap.size + 1, 1, none⟩) (fun _ => rfl) (.int .i64 y.kind)).setCell (p := ⟨w.heap.size + 1, 2, none⟩) (fun _ => rfl) (.string y.pkg)).setCell (p := ⟨w.heap.size + 1, 3, none⟩) (fun _ => rfl) (.string y.name)).setCell (p := ⟨w.heap.size + 1, 4, none⟩) (fun _ => rfl) (.slice B4 y.args.length d4)).setCell (p := ⟨w.heap.size + 1, 5, none⟩) (fun _ => rfl) (.slice B5 y.res.length d5)))
  have HF := Lib.hid (show Below w.heap.size w ((((((w2.setCell ⟨w.heap.size + 1, 0, none⟩ (.string f.name)).setCell ⟨w.heap.size + 1, 1, none⟩ (.int .i64 y.kind)).setCell ⟨w.heap.size + 1, 2, none⟩ (.string y.pkg)).setCell ⟨w.heap.size + 1, 3, none⟩ (.string y.name)).setCell ⟨w.heap.size + 1, 4, none⟩ (.slice B4 y.args.length d4)).setCell ⟨w.heap.size + 1, 5, none⟩ (.slice B5 y.res.length d5)) from Below.chg HB.out ((HCN.out.mono (S' := fun j => j = w.heap.size + 1) (fun _ _ e => e.elim)).trans HSET.out (fun _ _ e => e)) HB.out.size (fun i hi => by omega))
  have HV3 := Lib.hid ((HV2.out.sub (new_chg HSET.out (g := none) (g' := none) (fun k q _ => .inl (by rw [q]; exact HZS.out)) (fun k q => by cases q))).sub (new_mono HB.out.size none _))
  clear h0_ h1_ h2_ h3_ h4_ h5_ h6_
  refine wpT_one rfl (fun K hK => ?_)
  go_wp2_with fail
  refine hK _ _ ((HCN.out.mono (fun _ _ e => e.elim)).trans HSET.out (fun _ _ e => e)) ?_
  clear hK K
  refine wpT_doneN ?_
  go_wp2_with fail
  have d0_ : ((((((w2.setCell ⟨w.heap.size + 1, 0, none⟩ (.string f.name)).setCell ⟨w.heap.size + 1, 1, none⟩ (.int .i64 y.kind)).setCell ⟨w.heap.size + 1, 2, none⟩ (.string y.pkg)).setCell ⟨w.heap.size + 1, 3, none⟩ (.string y.name)).setCell ⟨w.heap.size + 1, 4, none⟩ (.slice B4 y.args.length d4)).setCell ⟨w.heap.size + 1, 5, none⟩ (.slice B5 y.res.length d5)).cell? ⟨w.heap.size + 1, 0, none⟩ = some (.string f.name) := (cell_at HD.out 0).trans rfl
  have d1_ : ((((((w2.setCell ⟨w.heap.size + 1, 0, none⟩ (.string f.name)).setCell ⟨w.heap.size + 1, 1, none⟩ (.int .i64 y.kind)).setCell ⟨w.heap.size + 1, 2, none⟩ (.string y.pkg)).setCell ⟨w.heap.size + 1, 3, none⟩ (.string y.name)).setCell ⟨w.heap.size + 1, 4, none⟩ (.slice B4 y.args.length d4)).setCell ⟨w.heap.size + 1, 5, none⟩ (.slice B5 y.res.length d5)).cell? ⟨w.heap.size + 1, 1, none⟩ = some (.int .i64 y.kind) := (cell_at HD.out 1).trans rfl
  have d2_ : ((((((w2.setCell ⟨w.heap.size + 1, 0, none⟩ (.string f.name)).setCell ⟨w.heap.size + 1, 1, none⟩ (.int .i64 y.kind)).setCell ⟨w.heap.size + 1, 2, none⟩ (.string y.pkg)).setCell ⟨w.heap.size + 1, 3, none⟩ (.string y.name)).setCell ⟨w.heap.size + 1, 4, none⟩ (.slice B4 y.args.length d4)).setCell ⟨w.heap.size + 1, 5, none⟩ (.slice B5 y.res.length d5)).cell? ⟨w.heap.size + 1, 2, none⟩ = some (.string y.pkg) := (cell_at HD.out 2).trans rfl
  have d3_ : ((((((w2.setCell ⟨w.heap.size + 1, 0, none⟩ (.string f.name)).setCell ⟨w.heap.size + 1, 1, none⟩ (.int .i64 y.kind)).setCell ⟨w.heap.size + 1, 2, none⟩ (.string y.pkg)).setCell ⟨w.heap.size + 1, 3, none⟩ (.string y.name)).setCell ⟨w.heap.size + 1, 4, none⟩ (.slice B4 y.args.length d4)).setCell ⟨w.heap.size + 1, 5, none⟩ (.slice B5 y.res.length d5)).cell? ⟨w.heap.size + 1, 3, none⟩ = some (.string y.name) := (cell_at HD.out 3).trans rfl
  have d4_ : ((((((w2.setCell ⟨w.heap.size + 1, 0, none⟩ (.string f.name)).setCell ⟨w.heap.size + 1, 1, none⟩ (.int .i64 y.kind)).setCell ⟨w.heap.size + 1, 2, none⟩ (.string y.pkg)).setCell ⟨w.heap.size + 1, 3, none⟩ (.string y.name)).setCell ⟨w.heap.size + 1, 4, none⟩ (.slice B4 y.args.length d4)).setCell ⟨w.heap.size + 1, 5, none⟩ (.slice B5 y.res.length d5)).cell? ⟨w.heap.size + 1, 4, none⟩ = some (.slice B4 y.args.length d4) := (cell_at HD.out 4).trans rfl
  have d5_ : ((((((w2.setCell ⟨w.heap.size + 1, 0, none⟩ (.string f.name)).setCell ⟨w.heap.size + 1, 1, none⟩ (.int .i64 y.kind)).setCell ⟨w.heap.size + 1, 2, none⟩ (.string y.pkg)).setCell ⟨w.heap.size + 1, 3, none⟩ (.string y.name)).setCell ⟨w.heap.size + 1, 4, none⟩ (.slice B4 y.args.length d4)).setCell ⟨w.heap.size + 1, 5, none⟩ (.slice B5 y.res.length d5)).cell? ⟨w.heap.size + 1, 5, none⟩ = some (.slice B5 y.res.length d5) := (cell_at HD.out 5).trans rfl
  refine bodyPost_ret (v := .agg #[.string f.name, .int .i64 y.kind, .string y.pkg, .string y.name, .slice B4 y.args.length d4, .slice B5 y.res.length d5]) (by simp [results, Try.results63, go_sem, d0_, d1_, d2_, d3_, d4_, d5_]) rfl ⟨_, rfl, ?_, HF.out⟩
  obtain ⟨_, _, _, _, e, y0, y1, y2, y3, y4⟩ := Ty.opn HV3.out
  simp only [List.cons.injEq, Value.slice.injEq, and_true, true_and] at e
  obtain ⟨⟨rfl, rfl⟩, rfl, rfl⟩ := e
  have hs := Fld.shut (w := NewW w.heap.size none ((((((w2.setCell ⟨w.heap.size + 1, 0, none⟩ (.string f.name)).setCell ⟨w.heap.size + 1, 1, none⟩ (.int .i64 y.kind)).setCell ⟨w.heap.size + 1, 2, none⟩ (.string y.pkg)).setCell ⟨w.heap.size + 1, 3, none⟩ (.string y.name)).setCell ⟨w.heap.size + 1, 4, none⟩ (.slice B4 y.args.length d4)).setCell ⟨w.heap.size + 1, 5, none⟩ (.slice B5 y.res.length d5))) (t := ⟨f.name, y⟩) Q0.out y0 y1 y2 y3 y4
  have e2 := HY.out
  clear HY
  subst e2
  exact hs
end Go.Proofs.Ytiecbgclkdlpkaa.fr

