/-
  The walk of KindsPuts. The condition: what is handed in reads.
-/
import Derived.Test.YtiecbgclkdlpkaaKPutR
import Derived.Test.YtiecbgclkdlpkaaHeldU
import Derived.Test.YtiecbgclkdlpkaaKAwake
import Derived.Test.YtiecbgclkdlpkaaKGreat
import Derived.Test.YtiecbgclkdlpkaaKBackLaw
import Derived.Test.YtiecbgclkdlpkaaSame7
namespace Go.Proofs.Ytiecbgclkdlpkaa
open Go.RowKit
set_option linter.unusedVariables false
set_option linter.unusedSimpArgs false
attribute [local irreducible] wpStill wpOrd wpT

set_option maxRecDepth 100000 in
set_option maxHeartbeats 3200000 in
theorem kindsPuts_any (w : World) (t : Ty) (vs : List Value) (hv : Vals w t.d vs) (names : List ByteArray) (A : Option Addr) (c : Nat) (hn : SL w 1 (strs names) names.length A c) (ts : List Ty) (A' : Option Addr) (c' : Nat) (ht : SL w 5 (Ty.ds ts) ts.length A' c') :
    Calls Try.prog 6 #[.agg vs.toArray, .slice A names.length c, .slice A' ts.length c'] w (Ans w (.bool true)) := by
  have HV := Lib.hid hv
  obtain ⟨A3, c3, A4, c4, rfl, q0, q1, q2, q3, q4⟩ := Ty.opn hv
  have HB2 := Lib.hid (show Below w.heap.size w ((w.alloc (.cells #[.int .i64 t.kind, .string t.pkg, .string t.name, .slice A3 t.args.length c3, .slice A4 t.res.length c4] 26)).alloc (.cells #[.int .i64 t.kind, .string t.pkg, .string t.name, .slice A3 t.args.length c3, .slice A4 t.res.length c4] 26)) from ((Below.refl w.heap.size w).alloc (Nat.le_refl _) _).alloc (by simp) _)
  have HT2 := Lib.hid (show ((w.alloc (.cells #[.int .i64 t.kind, .string t.pkg, .string t.name, .slice A3 t.args.length c3, .slice A4 t.res.length c4] 26)).alloc (.cells #[.int .i64 t.kind, .string t.pkg, .string t.name, .slice A3 t.args.length c3, .slice A4 t.res.length c4] 26)).heap[w.heap.size]? = some (.cells #[.int .i64 t.kind, .string t.pkg, .string t.name, .slice A3 t.args.length c3, .slice A4 t.res.length c4] 26 (0, 0)) from alloc_old (alloc_at w _) _)
  have hk : ((w.alloc (.cells #[.int .i64 t.kind, .string t.pkg, .string t.name, .slice A3 t.args.length c3, .slice A4 t.res.length c4] 26)).alloc (.cells #[.int .i64 t.kind, .string t.pkg, .string t.name, .slice A3 t.args.length c3, .slice A4 t.res.length c4] 26)).heap[w.heap.size + 1]? = some (.cells #[.int .i64 t.kind, .string t.pkg, .string t.name, .slice A3 t.args.length c3, .slice A4 t.res.length c4] 26 (0, 0)) := by have := alloc_at (w.alloc (.cells #[.int .i64 t.kind, .string t.pkg, .string t.name, .slice A3 t.args.length c3, .slice A4 t.res.length c4] 26)) (.cells #[.int .i64 t.kind, .string t.pkg, .string t.name, .slice A3 t.args.length c3, .slice A4 t.res.length c4] 26); rwa [World.size_alloc] at this
  have HG1 := Lib.hid (great_any ((w.alloc (.cells #[.int .i64 t.kind, .string t.pkg, .string t.name, .slice A3 t.args.length c3, .slice A4 t.res.length c4] 26)).alloc (.cells #[.int .i64 t.kind, .string t.pkg, .string t.name, .slice A3 t.args.length c3, .slice A4 t.res.length c4] 26)) [t] _ 1 (sl_one hk (HV.out.sub (Below.sub HB2.out))))
  have HN := Lib.hid hn; have HTS := Lib.hid ht
  have hnl := hn.2.2.1; have htl := ht.2.2.1
  unfold Reach at hnl htl
  clear hv hn ht q0 q1 q2 q3 q4 hk
  go_enter Try.func6, Try.ntmps6
  go_wp2_with fail
  refine HG1.out.mono ?_
  rintro e w1 ⟨g, rfl, hg, hb⟩
  have HB1 := Lib.hid (HB2.out.trans (hb.mono HB2.out.size))
  have HT1 := Lib.hid ((hb.block _ (lt_of_block HT2.out)).trans HT2.out)
  clear hb HB2 HT2 HG1
  cases g
  case true =>
    clear hg
    go_wp2_with fail
    refine (awake_any w1).mono ?_
    rintro e wz ⟨rfl, hb⟩
    have HBZ := Lib.hid (HB1.out.trans (hb.mono HB1.out.size)); clear hb
    go_wp2_with fail
    exact bodyPost_ret (results_tmp rfl _ _ _) rfl ⟨rfl, HBZ.out⟩
  have HSZ := Lib.hid (show t.sz ≤ 400 by have := hg rfl; simp only [Ty.szL] at this; omega)
  clear hg
  go_wp2_with fail
  refine (great_any w1 ts A' c' (HTS.out.sub (Below.sub HB1.out))).mono ?_
  rintro e w2 ⟨g, rfl, hg, hb⟩
  have HB2 := Lib.hid (HB1.out.trans (hb.mono HB1.out.size))
  have HT2 := Lib.hid ((hb.block _ (lt_of_block HT1.out)).trans HT1.out)
  clear hb
  cases g
  case true =>
    clear hg
    go_wp2_with fail
    refine (awake_any w2).mono ?_
    rintro e wz ⟨rfl, hb⟩
    have HBZ := Lib.hid (HB2.out.trans (hb.mono HB2.out.size)); clear hb
    go_wp2_with fail
    exact bodyPost_ret (results_tmp rfl _ _ _) rfl ⟨rfl, HBZ.out⟩
  have HSS := Lib.hid (show ∀ x ∈ ts, x.sz ≤ 1000000 from fun x hx => by have := hg rfl; have := Ty.mem_sz hx; omega)
  clear hg
  by_cases hlen : (names.length : Int) > 50
  case pos =>
    go_wp2_with fail
    refine (awake_any w2).mono ?_
    rintro e wz ⟨rfl, hb⟩
    have HBZ := Lib.hid (HB2.out.trans (hb.mono HB2.out.size)); clear hb
    go_wp2_with fail
    exact bodyPost_ret (results_tmp rfl _ _ _) rfl ⟨rfl, HBZ.out⟩
  have t0_ : w2.cell? ⟨w.heap.size, 0, none⟩ = some (.int .i64 t.kind) := (cell_at HT2.out 0).trans rfl
  have t1_ : w2.cell? ⟨w.heap.size, 1, none⟩ = some (.string t.pkg) := (cell_at HT2.out 1).trans rfl
  have t2_ : w2.cell? ⟨w.heap.size, 2, none⟩ = some (.string t.name) := (cell_at HT2.out 2).trans rfl
  have t3_ : w2.cell? ⟨w.heap.size, 3, none⟩ = some (.slice A3 t.args.length c3) := (cell_at HT2.out 3).trans rfl
  have t4_ : w2.cell? ⟨w.heap.size, 4, none⟩ = some (.slice A4 t.res.length c4) := (cell_at HT2.out 4).trans rfl
  go_wp2_with fail
  clear t0_ t1_ t2_ t3_ t4_
  refine (rcopC t (by have := HSZ.out; omega) w2 _ (HV.out.sub (Below.sub HB2.out))).mono ?_
  rintro e w3 ⟨vs, rfl, hv, hb⟩
  obtain ⟨E3, f3, E4, f4, rfl, y0, y1, y2, y3, y4⟩ := Ty.opn hv
  have HB3 := Lib.hid (HB2.out.trans (hb.mono HB2.out.size))
  have HT3 := Lib.hid ((hb.block _ (lt_of_block HT2.out)).trans HT2.out)
  have HA3 := Lib.hid (show Below w3.heap.size w3 (w3.alloc (.cells #[.int .i64 t.kind, .string t.pkg, .string t.name, .slice E3 t.args.length f3, .slice E4 t.res.length f4] 26)) from (Below.refl w3.heap.size w3).alloc (Nat.le_refl _) _)
  have HV3 := Lib.hid ((hv.sub (new_sub _ _ _)).sub (Below.sub HA3.out))
  have HBB := Lib.hid (HB3.out.trans (HA3.out.mono HB3.out.size))
  have HC3 := Lib.hid (alloc_at w3 (.cells #[.int .i64 t.kind, .string t.pkg, .string t.name, .slice E3 t.args.length f3, .slice E4 t.res.length f4] 26))
  have HTT := Lib.hid (alloc_old HT3.out (.cells #[.int .i64 t.kind, .string t.pkg, .string t.name, .slice E3 t.args.length f3, .slice E4 t.res.length f4] 26))
  clear hv hb y0 y1 y2 y3 y4
  have t0_ : w3.cell? ⟨w.heap.size, 0, none⟩ = some (.int .i64 t.kind) := (cell_at HT3.out 0).trans rfl
  have t1_ : w3.cell? ⟨w.heap.size, 1, none⟩ = some (.string t.pkg) := (cell_at HT3.out 1).trans rfl
  have t2_ : w3.cell? ⟨w.heap.size, 2, none⟩ = some (.string t.name) := (cell_at HT3.out 2).trans rfl
  have t3_ : w3.cell? ⟨w.heap.size, 3, none⟩ = some (.slice A3 t.args.length c3) := (cell_at HT3.out 3).trans rfl
  have t4_ : w3.cell? ⟨w.heap.size, 4, none⟩ = some (.slice A4 t.res.length c4) := (cell_at HT3.out 4).trans rfl
  have lt_ := lt_of_block HT3.out
  go_wp2_with fail
  clear t0_ t1_ t2_ t3_ t4_ lt_
  obtain ⟨wa, hwa⟩ : ∃ x, x = w3.alloc (.cells #[.int .i64 t.kind, .string t.pkg, .string t.name, .slice E3 t.args.length f3, .slice E4 t.res.length f4] 26) := ⟨_, rfl⟩
  rw [← hwa] at HV3 HBB HC3 HTT
  rw [← hwa]
  have HWA := Lib.hid hwa
  clear hwa
  refine (putC t (by have := HSZ.out; omega) HSS.out wa _ _ _ _ _ (HV.out.sub (Below.sub HBB.out)) (HN.out.sub (Below.sub HBB.out)) (HTS.out.sub (Below.sub HBB.out))).mono ?_
  obtain ⟨y, hy⟩ : ∃ y, y = putTy names ts t := ⟨_, rfl⟩
  rw [← hy]
  have HY := Lib.hid hy
  clear hy
  rintro e w4 ⟨vs, rfl, hv, hb⟩
  obtain ⟨B3, d3, B4, d4, rfl, y0, y1, y2, y3, y4⟩ := Ty.opn hv
  have HB4 := Lib.hid (HBB.out.trans (hb.mono HBB.out.size))
  have HT4 := Lib.hid ((hb.block _ (lt_of_block HTT.out)).trans HTT.out)
  have HC4 := Lib.hid ((hb.block _ (lt_of_block HC3.out)).trans HC3.out)
  have HV4 := Lib.hid (HV3.out.sub (Below.sub hb))
  have HA4 := Lib.hid (show Below w4.heap.size w4 (w4.alloc (.cells #[.int .i64 y.kind, .string y.pkg, .string y.name, .slice B3 y.args.length d3, .slice B4 y.res.length d4] 26)) from (Below.refl w4.heap.size w4).alloc (Nat.le_refl _) _)
  have HY4 := Lib.hid ((hv.sub (new_sub _ _ _)).sub (Below.sub HA4.out))
  have HV5 := Lib.hid (HV4.out.sub (Below.sub HA4.out))
  have HB5 := Lib.hid (HB4.out.trans (HA4.out.mono HB4.out.size))
  have HD5 := Lib.hid (alloc_at w4 (.cells #[.int .i64 y.kind, .string y.pkg, .string y.name, .slice B3 y.args.length d3, .slice B4 y.res.length d4] 26))
  have HC5 := Lib.hid (alloc_old HC4.out (.cells #[.int .i64 y.kind, .string y.pkg, .string y.name, .slice B3 y.args.length d3, .slice B4 y.res.length d4] 26))
  have HT5 := Lib.hid (alloc_old HT4.out (.cells #[.int .i64 y.kind, .string y.pkg, .string y.name, .slice B3 y.args.length d3, .slice B4 y.res.length d4] 26))
  clear hv hb y0 y1 y2 y3 y4
  go_wp2_with fail
  obtain ⟨wb, hwb⟩ : ∃ x, x = w4.alloc (.cells #[.int .i64 y.kind, .string y.pkg, .string y.name, .slice B3 y.args.length d3, .slice B4 y.res.length d4] 26) := ⟨_, rfl⟩
  rw [← hwb] at HY4 HV5 HB5 HD5 HC5 HT5
  rw [← hwb]
  have HWB := Lib.hid hwb
  clear hwb
  refine wp_region_otN (fun wS => Below wb.heap.size wb wS) (.get 0 (.get 1 (.get 2 (.get 3 (.one 4 (.one 5 (.get 6 (.get 7 (.get 8 (.one 9 (.get 10 (.get 11 (.one 12 (.get 13 (.get 14 .done))))))))))))))) (by kernel_rfl) (by kernel_rfl) (Below.drew (Below.refl _ _)) ?_
  apply wpT_get rfl
  · go_simp
  · intro wS hS
    have x0 := Below.sub hS _ _ ((cell_at HD5.out 0).trans rfl : wb.cell? ⟨w4.heap.size, 0, none⟩ = some (.int .i64 y.kind))
    have x1 := Below.sub hS _ _ ((cell_at HD5.out 1).trans rfl : wb.cell? ⟨w4.heap.size, 1, none⟩ = some (.string y.pkg))
    have x2 := Below.sub hS _ _ ((cell_at HD5.out 2).trans rfl : wb.cell? ⟨w4.heap.size, 2, none⟩ = some (.string y.name))
    have x3 := Below.sub hS _ _ ((cell_at HD5.out 3).trans rfl : wb.cell? ⟨w4.heap.size, 3, none⟩ = some (.slice B3 y.args.length d3))
    have x4 := Below.sub hS _ _ ((cell_at HD5.out 4).trans rfl : wb.cell? ⟨w4.heap.size, 4, none⟩ = some (.slice B4 y.res.length d4))
    go_simp
    try rfl
  intro K hK
  go_simp
  refine hK _ ?_
  clear hK K
  apply wpT_get rfl
  · go_simp
  · intro wS hS
    have x0 := Below.sub hS _ _ ((cell_at HT5.out 0).trans rfl : wb.cell? ⟨w.heap.size, 0, none⟩ = some (.int .i64 t.kind))
    have x1 := Below.sub hS _ _ ((cell_at HT5.out 1).trans rfl : wb.cell? ⟨w.heap.size, 1, none⟩ = some (.string t.pkg))
    have x2 := Below.sub hS _ _ ((cell_at HT5.out 2).trans rfl : wb.cell? ⟨w.heap.size, 2, none⟩ = some (.string t.name))
    have x3 := Below.sub hS _ _ ((cell_at HT5.out 3).trans rfl : wb.cell? ⟨w.heap.size, 3, none⟩ = some (.slice A3 t.args.length c3))
    have x4 := Below.sub hS _ _ ((cell_at HT5.out 4).trans rfl : wb.cell? ⟨w.heap.size, 4, none⟩ = some (.slice A4 t.res.length c4))
    go_simp
    try rfl
  intro K hK
  go_simp
  refine hK _ ?_
  clear hK K
  apply wpT_get rfl
  · go_simp
  · intro wS hS
    go_simp
    try rfl
  intro K hK
  go_simp
  refine hK _ ?_
  clear hK K
  apply wpT_get rfl
  · go_simp
  · intro wS hS
    go_simp
    try rfl
  intro K hK
  go_simp
  refine hK _ ?_
  clear hK K
  have HD := Lib.hid (show Below wb.heap.size wb wb.drew from Below.drew (Below.refl _ _))
  have HBD := Lib.hid (HB5.out.trans (HD.out.mono HB5.out.size))
  refine wpT_one rfl (fun K hK => ?_)
  go_wp2_with fail
  refine (rputC t (by have := HSZ.out; omega) HSS.out wb.drew _ _ _ _ _ (HV.out.sub (Below.sub HBD.out)) (HN.out.sub (Below.sub HBD.out)) (HTS.out.sub (Below.sub HBD.out))).mono ?_
  rw [← HY.out]
  rintro e w6 ⟨vs, rfl, hv, hb⟩
  have HV6 := Lib.hid (hv.sub (new_sub _ _ _))
  obtain ⟨G3, h3, G4, h4, rfl, y0, y1, y2, y3, y4⟩ := Ty.opn hv
  have HB6 := Lib.hid (show Below wb.heap.size wb w6 from HD.out.trans hb)
  clear hv hb y0 y1 y2 y3 y4
  go_wp2_with fail
  refine hK _ _ HB6.out ?_
  clear hK K
  refine wpT_one rfl (fun K hK => ?_)
  go_wp2_with fail
  refine (eqTyV y y w6 _ _ (HY4.out.sub (Below.sub HB6.out)) HV6.out).mono ?_
  rw [eqTy_self]
  rintro e w7 ⟨rfl, hb⟩
  have HB7 := Lib.hid (show Below wb.heap.size wb w7 from HB6.out.trans (hb.mono HB6.out.size))
  clear hb
  go_wp2_with fail
  refine hK _ _ HB7.out ?_
  clear hK K
  apply wpT_get rfl
  · go_simp
  · intro wS hS
    go_simp
    try rfl
  intro K hK
  go_simp
  refine hK _ ?_
  clear hK K
  apply wpT_get rfl
  · go_simp
  · intro wS hS
    have x0 := Below.sub hS _ _ ((cell_at HT5.out 0).trans rfl : wb.cell? ⟨w.heap.size, 0, none⟩ = some (.int .i64 t.kind))
    have x1 := Below.sub hS _ _ ((cell_at HT5.out 1).trans rfl : wb.cell? ⟨w.heap.size, 1, none⟩ = some (.string t.pkg))
    have x2 := Below.sub hS _ _ ((cell_at HT5.out 2).trans rfl : wb.cell? ⟨w.heap.size, 2, none⟩ = some (.string t.name))
    have x3 := Below.sub hS _ _ ((cell_at HT5.out 3).trans rfl : wb.cell? ⟨w.heap.size, 3, none⟩ = some (.slice A3 t.args.length c3))
    have x4 := Below.sub hS _ _ ((cell_at HT5.out 4).trans rfl : wb.cell? ⟨w.heap.size, 4, none⟩ = some (.slice A4 t.res.length c4))
    go_simp
    try rfl
  intro K hK
  go_simp
  refine hK _ ?_
  clear hK K
  apply wpT_get rfl
  · go_simp
  · intro wS hS
    have x0 := Below.sub hS _ _ ((cell_at HC5.out 0).trans rfl : wb.cell? ⟨w3.heap.size, 0, none⟩ = some (.int .i64 t.kind))
    have x1 := Below.sub hS _ _ ((cell_at HC5.out 1).trans rfl : wb.cell? ⟨w3.heap.size, 1, none⟩ = some (.string t.pkg))
    have x2 := Below.sub hS _ _ ((cell_at HC5.out 2).trans rfl : wb.cell? ⟨w3.heap.size, 2, none⟩ = some (.string t.name))
    have x3 := Below.sub hS _ _ ((cell_at HC5.out 3).trans rfl : wb.cell? ⟨w3.heap.size, 3, none⟩ = some (.slice E3 t.args.length f3))
    have x4 := Below.sub hS _ _ ((cell_at HC5.out 4).trans rfl : wb.cell? ⟨w3.heap.size, 4, none⟩ = some (.slice E4 t.res.length f4))
    go_simp
    try rfl
  intro K hK
  go_simp
  refine hK _ ?_
  clear hK K
  refine wpT_one rfl (fun K hK => ?_)
  go_wp2_with fail
  refine (eqTyV t t w7 _ _ (HV.out.sub (Below.sub (HB5.out.trans (HB7.out.mono HB5.out.size)))) (HV5.out.sub (Below.sub HB7.out))).mono ?_
  rw [eqTy_self]
  rintro e w8 ⟨rfl, hb⟩
  have HB8 := Lib.hid (show Below wb.heap.size wb w8 from HB7.out.trans (hb.mono HB7.out.size))
  clear hb
  go_wp2_with fail
  refine hK _ _ HB8.out ?_
  clear hK K
  apply wpT_get rfl
  · go_simp
  · intro wS hS
    go_simp
    try rfl
  intro K hK
  go_simp
  refine hK _ ?_
  clear hK K
  apply wpT_get rfl
  · go_simp
  · intro wS hS
    go_simp
    try rfl
  intro K hK
  go_simp
  refine hK _ ?_
  clear hK K
  refine wpT_one rfl (fun K hK => ?_)
  go_wp2_with fail
  refine (awake_any w8).mono ?_
  rintro e w9 ⟨rfl, hb⟩
  have HB9 := Lib.hid (show Below wb.heap.size wb w9 from HB8.out.trans (hb.mono HB8.out.size))
  clear hb
  go_wp2_with fail
  refine hK _ _ HB9.out ?_
  clear hK K
  apply wpT_get rfl
  · go_simp
  · intro wS hS
    go_simp
    try rfl
  intro K hK
  go_simp
  refine hK _ ?_
  clear hK K
  apply wpT_get rfl
  · go_simp
  · intro wS hS
    go_simp
    try rfl
  intro K hK
  go_simp
  refine hK _ ?_
  clear hK K
  refine wpT_doneN ?_
  go_wp2_with fail
  exact bodyPost_ret (results_tmp rfl _ _ _) rfl ⟨rfl, HB5.out.trans (HB9.out.mono HB5.out.size)⟩
end Go.Proofs.Ytiecbgclkdlpkaa
