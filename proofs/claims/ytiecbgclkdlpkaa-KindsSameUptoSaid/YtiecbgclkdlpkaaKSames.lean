/-
  The walk of KindsSame. The conditions: what is handed in reads; the types' texts are not too long.
-/
import Derived.Test.YtiecbgclkdlpkaaKRText
import Derived.Test.YtiecbgclkdlpkaaKSame
import Derived.Test.YtiecbgclkdlpkaaHeldU
import Derived.Test.YtiecbgclkdlpkaaKAwake
import Derived.Test.YtiecbgclkdlpkaaKGreat
import Derived.Test.YtiecbgclkdlpkaaSame7
namespace Go.Proofs.Ytiecbgclkdlpkaa
open Go.RowKit
set_option linter.unusedVariables false
set_option linter.unusedSimpArgs false
attribute [local irreducible] wpStill wpOrd wpT

set_option maxRecDepth 100000 in
set_option maxHeartbeats 3200000 in
theorem kindsSame_any (w : World) (a b : Ty) (vs us : List Value) (hv : Vals w a.d vs) (hu : Vals w b.d us) (la : longT a ≤ 70368744177664) (lb : longT b ≤ 70368744177664) :
    Calls Try.prog 7 #[.agg vs.toArray, .agg us.toArray] w (Ans w (.bool true)) := by
  have HV := Lib.hid hv; have HU := Lib.hid hu; have HLA := Lib.hid la; have HLB := Lib.hid lb
  obtain ⟨A3, c3, A4, c4, rfl, q0, q1, q2, q3, q4⟩ := Ty.opn hv
  obtain ⟨B3, d3, B4, d4, rfl, y0, y1, y2, y3, y4⟩ := Ty.opn hu
  have HB3 := Lib.hid (show Below w.heap.size w (((w.alloc (.cells #[.int .i64 a.kind, .string a.pkg, .string a.name, .slice A3 a.args.length c3, .slice A4 a.res.length c4] 26)).alloc (.cells #[.int .i64 b.kind, .string b.pkg, .string b.name, .slice B3 b.args.length d3, .slice B4 b.res.length d4] 26)).alloc (.cells #[.int .i64 a.kind, .string a.pkg, .string a.name, .slice A3 a.args.length c3, .slice A4 a.res.length c4, .int .i64 b.kind, .string b.pkg, .string b.name, .slice B3 b.args.length d3, .slice B4 b.res.length d4] 26)) from (((Below.refl w.heap.size w).alloc (Nat.le_refl _) _).alloc (by simp) _).alloc (by simp only [World.size_alloc]; omega) _)
  have HA := Lib.hid (show (((w.alloc (.cells #[.int .i64 a.kind, .string a.pkg, .string a.name, .slice A3 a.args.length c3, .slice A4 a.res.length c4] 26)).alloc (.cells #[.int .i64 b.kind, .string b.pkg, .string b.name, .slice B3 b.args.length d3, .slice B4 b.res.length d4] 26)).alloc (.cells #[.int .i64 a.kind, .string a.pkg, .string a.name, .slice A3 a.args.length c3, .slice A4 a.res.length c4, .int .i64 b.kind, .string b.pkg, .string b.name, .slice B3 b.args.length d3, .slice B4 b.res.length d4] 26)).heap[w.heap.size]? = some (.cells #[.int .i64 a.kind, .string a.pkg, .string a.name, .slice A3 a.args.length c3, .slice A4 a.res.length c4] 26 (0, 0)) from alloc_old (alloc_old (alloc_at w _) _) _)
  have HBB := Lib.hid (show (((w.alloc (.cells #[.int .i64 a.kind, .string a.pkg, .string a.name, .slice A3 a.args.length c3, .slice A4 a.res.length c4] 26)).alloc (.cells #[.int .i64 b.kind, .string b.pkg, .string b.name, .slice B3 b.args.length d3, .slice B4 b.res.length d4] 26)).alloc (.cells #[.int .i64 a.kind, .string a.pkg, .string a.name, .slice A3 a.args.length c3, .slice A4 a.res.length c4, .int .i64 b.kind, .string b.pkg, .string b.name, .slice B3 b.args.length d3, .slice B4 b.res.length d4] 26)).heap[w.heap.size + 1]? = some (.cells #[.int .i64 b.kind, .string b.pkg, .string b.name, .slice B3 b.args.length d3, .slice B4 b.res.length d4] 26 (0, 0)) from alloc_old (by have := alloc_at (w.alloc (.cells #[.int .i64 a.kind, .string a.pkg, .string a.name, .slice A3 a.args.length c3, .slice A4 a.res.length c4] 26)) (.cells #[.int .i64 b.kind, .string b.pkg, .string b.name, .slice B3 b.args.length d3, .slice B4 b.res.length d4] 26); rwa [World.size_alloc] at this) _)
  have hk : (((w.alloc (.cells #[.int .i64 a.kind, .string a.pkg, .string a.name, .slice A3 a.args.length c3, .slice A4 a.res.length c4] 26)).alloc (.cells #[.int .i64 b.kind, .string b.pkg, .string b.name, .slice B3 b.args.length d3, .slice B4 b.res.length d4] 26)).alloc (.cells #[.int .i64 a.kind, .string a.pkg, .string a.name, .slice A3 a.args.length c3, .slice A4 a.res.length c4, .int .i64 b.kind, .string b.pkg, .string b.name, .slice B3 b.args.length d3, .slice B4 b.res.length d4] 26)).heap[w.heap.size + 1 + 1]? = some (.cells #[.int .i64 a.kind, .string a.pkg, .string a.name, .slice A3 a.args.length c3, .slice A4 a.res.length c4, .int .i64 b.kind, .string b.pkg, .string b.name, .slice B3 b.args.length d3, .slice B4 b.res.length d4] 26 (0, 0)) := by have := alloc_at ((w.alloc (.cells #[.int .i64 a.kind, .string a.pkg, .string a.name, .slice A3 a.args.length c3, .slice A4 a.res.length c4] 26)).alloc (.cells #[.int .i64 b.kind, .string b.pkg, .string b.name, .slice B3 b.args.length d3, .slice B4 b.res.length d4] 26)) (.cells #[.int .i64 a.kind, .string a.pkg, .string a.name, .slice A3 a.args.length c3, .slice A4 a.res.length c4, .int .i64 b.kind, .string b.pkg, .string b.name, .slice B3 b.args.length d3, .slice B4 b.res.length d4] 26); rwa [World.size_alloc, World.size_alloc] at this
  have HG := Lib.hid (great_any (((w.alloc (.cells #[.int .i64 a.kind, .string a.pkg, .string a.name, .slice A3 a.args.length c3, .slice A4 a.res.length c4] 26)).alloc (.cells #[.int .i64 b.kind, .string b.pkg, .string b.name, .slice B3 b.args.length d3, .slice B4 b.res.length d4] 26)).alloc (.cells #[.int .i64 a.kind, .string a.pkg, .string a.name, .slice A3 a.args.length c3, .slice A4 a.res.length c4, .int .i64 b.kind, .string b.pkg, .string b.name, .slice B3 b.args.length d3, .slice B4 b.res.length d4] 26)) [a, b] _ 2 (sl_two (vs := [.int .i64 a.kind, .string a.pkg, .string a.name, .slice A3 a.args.length c3, .slice A4 a.res.length c4]) (us := [.int .i64 b.kind, .string b.pkg, .string b.name, .slice B3 b.args.length d3, .slice B4 b.res.length d4]) hk rfl (HV.out.sub (Below.sub HB3.out)) (HU.out.sub (Below.sub HB3.out))))
  clear hv hu q0 q1 q2 q3 q4 y0 y1 y2 y3 y4 hk la lb
  go_enter Try.func7, Try.ntmps7
  go_wp2_with fail
  refine HG.out.mono ?_
  rintro e w1 ⟨g, rfl, hg, hb⟩
  have HB1 := Lib.hid (HB3.out.trans (hb.mono HB3.out.size))
  have HA1 := Lib.hid ((hb.block _ (lt_of_block HA.out)).trans HA.out)
  have HBB1 := Lib.hid ((hb.block _ (lt_of_block HBB.out)).trans HBB.out)
  clear hb
  cases g
  case true =>
    clear hg
    go_wp2_with fail
    refine (awake_any w1).mono ?_
    rintro e wz ⟨rfl, hb⟩
    have HBZ := Lib.hid (HB1.out.trans (hb.mono HB1.out.size)); clear hb
    go_wp2_with fail
    exact bodyPost_ret (results_tmp rfl _ _ _) rfl ⟨rfl, HBZ.out⟩
  have HSZ := Lib.hid (show a.sz ≤ 1000000 ∧ b.sz ≤ 1000000 by have := hg rfl; simp only [Ty.szL] at this; omega)
  clear hg HG
  go_wp2_with fail
  have HV1 := Lib.hid (HV.out.sub (Below.sub HB1.out)); have HU1 := Lib.hid (HU.out.sub (Below.sub HB1.out))
  obtain ⟨q, hq⟩ : ∃ q, q = eqTy a b := ⟨_, rfl⟩
  obtain ⟨s, hs⟩ : ∃ s, s = textB a := ⟨_, rfl⟩
  obtain ⟨u, hu⟩ : ∃ u, u = textB b := ⟨_, rfl⟩
  have HQ := Lib.hid hq; have HS := Lib.hid hs; have HUU := Lib.hid hu
  clear hq hs hu
  have x0 := HBB1
  refine wp_region_otN (fun wS => Below w1.heap.size w1 wS) (.get 0 (.get 1 (.get 3 (.get 4 (.one 2 (.one 5 (.get 6 (.get 7 (.get 8 (.get 10 (.one 9 (.one 11 (.get 12 (.get 13 (.get 14 (.get 15 (.get 17 (.one 16 (.one 18 (.get 19 (.get 20 (.get 21 (.get 22 (.get 23 (.one 24 (.get 25 (.get 26 (.one 27 (.get 28 (.get 29 .done)))))))))))))))))))))))))))))) (by kernel_rfl) (by kernel_rfl) (Below.drew (Below.refl _ _)) ?_
  have HD := Lib.hid (show Below w1.heap.size w1 w1.drew from Below.drew (Below.refl _ _))
  clear x0
  apply wpT_get rfl
  · go_simp
  · intro wS hS
    have x0 := Below.sub hS _ _ ((cell_at HA1.out 0).trans rfl : w1.cell? ⟨w.heap.size, 0, none⟩ = some (.int .i64 a.kind))
    have x1 := Below.sub hS _ _ ((cell_at HA1.out 1).trans rfl : w1.cell? ⟨w.heap.size, 1, none⟩ = some (.string a.pkg))
    have x2 := Below.sub hS _ _ ((cell_at HA1.out 2).trans rfl : w1.cell? ⟨w.heap.size, 2, none⟩ = some (.string a.name))
    have x3 := Below.sub hS _ _ ((cell_at HA1.out 3).trans rfl : w1.cell? ⟨w.heap.size, 3, none⟩ = some (.slice A3 a.args.length c3))
    have x4 := Below.sub hS _ _ ((cell_at HA1.out 4).trans rfl : w1.cell? ⟨w.heap.size, 4, none⟩ = some (.slice A4 a.res.length c4))
    go_simp
    try rfl
  intro K hK
  go_simp
  refine hK _ ?_
  clear hK K
  apply wpT_get rfl
  · go_simp
  · intro wS hS
    have x0 := Below.sub hS _ _ ((cell_at HBB1.out 0).trans rfl : w1.cell? ⟨w.heap.size + 1, 0, none⟩ = some (.int .i64 b.kind))
    have x1 := Below.sub hS _ _ ((cell_at HBB1.out 1).trans rfl : w1.cell? ⟨w.heap.size + 1, 1, none⟩ = some (.string b.pkg))
    have x2 := Below.sub hS _ _ ((cell_at HBB1.out 2).trans rfl : w1.cell? ⟨w.heap.size + 1, 2, none⟩ = some (.string b.name))
    have x3 := Below.sub hS _ _ ((cell_at HBB1.out 3).trans rfl : w1.cell? ⟨w.heap.size + 1, 3, none⟩ = some (.slice B3 b.args.length d3))
    have x4 := Below.sub hS _ _ ((cell_at HBB1.out 4).trans rfl : w1.cell? ⟨w.heap.size + 1, 4, none⟩ = some (.slice B4 b.res.length d4))
    go_simp
    try rfl
  intro K hK
  go_simp
  refine hK _ ?_
  clear hK K
  apply wpT_get rfl
  · go_simp
  · intro wS hS
    have x0 := Below.sub hS _ _ ((cell_at HA1.out 0).trans rfl : w1.cell? ⟨w.heap.size, 0, none⟩ = some (.int .i64 a.kind))
    have x1 := Below.sub hS _ _ ((cell_at HA1.out 1).trans rfl : w1.cell? ⟨w.heap.size, 1, none⟩ = some (.string a.pkg))
    have x2 := Below.sub hS _ _ ((cell_at HA1.out 2).trans rfl : w1.cell? ⟨w.heap.size, 2, none⟩ = some (.string a.name))
    have x3 := Below.sub hS _ _ ((cell_at HA1.out 3).trans rfl : w1.cell? ⟨w.heap.size, 3, none⟩ = some (.slice A3 a.args.length c3))
    have x4 := Below.sub hS _ _ ((cell_at HA1.out 4).trans rfl : w1.cell? ⟨w.heap.size, 4, none⟩ = some (.slice A4 a.res.length c4))
    go_simp
    try rfl
  intro K hK
  go_simp
  refine hK _ ?_
  clear hK K
  apply wpT_get rfl
  · go_simp
  · intro wS hS
    have x0 := Below.sub hS _ _ ((cell_at HBB1.out 0).trans rfl : w1.cell? ⟨w.heap.size + 1, 0, none⟩ = some (.int .i64 b.kind))
    have x1 := Below.sub hS _ _ ((cell_at HBB1.out 1).trans rfl : w1.cell? ⟨w.heap.size + 1, 1, none⟩ = some (.string b.pkg))
    have x2 := Below.sub hS _ _ ((cell_at HBB1.out 2).trans rfl : w1.cell? ⟨w.heap.size + 1, 2, none⟩ = some (.string b.name))
    have x3 := Below.sub hS _ _ ((cell_at HBB1.out 3).trans rfl : w1.cell? ⟨w.heap.size + 1, 3, none⟩ = some (.slice B3 b.args.length d3))
    have x4 := Below.sub hS _ _ ((cell_at HBB1.out 4).trans rfl : w1.cell? ⟨w.heap.size + 1, 4, none⟩ = some (.slice B4 b.res.length d4))
    go_simp
    try rfl
  intro K hK
  go_simp
  refine hK _ ?_
  clear hK K
  refine wpT_one rfl (fun K hK => ?_)
  go_wp2_with fail
  refine (keqTyV a b w1.drew _ _ (HV1.out.sub (Below.sub HD.out)) (HU1.out.sub (Below.sub HD.out))).mono ?_
  rw [← HQ.out]
  rintro e w2 ⟨rfl, hb⟩
  have HC2 := Lib.hid (show Below w1.heap.size w1 w2 from HD.out.trans (hb.mono HD.out.size))
  clear hb
  go_wp2_with fail
  refine hK _ _ HC2.out ?_
  clear hK K
  refine wpT_one rfl (fun K hK => ?_)
  go_wp2_with fail
  refine (eqTyV a b w2 _ _ (HV1.out.sub (Below.sub HC2.out)) (HU1.out.sub (Below.sub HC2.out))).mono ?_
  rw [← HQ.out]
  rintro e w3 ⟨rfl, hb⟩
  have HC3 := Lib.hid (show Below w1.heap.size w1 w3 from HC2.out.trans (hb.mono HC2.out.size))
  clear hb
  go_wp2_with fail
  refine hK _ _ HC3.out ?_
  clear hK K
  apply wpT_get rfl
  · go_simp
  · intro wS hS
    go_simp
    try rfl
  intro K hK
  go_simp
  refine hK _ ?_
  clear hK K
  apply wpT_get rfl
  · go_simp
  · intro wS hS
    go_simp
    try rfl
  intro K hK
  go_simp
  refine hK _ ?_
  clear hK K
  apply wpT_get rfl
  · go_simp
  · intro wS hS
    have x0 := Below.sub hS _ _ ((cell_at HA1.out 0).trans rfl : w1.cell? ⟨w.heap.size, 0, none⟩ = some (.int .i64 a.kind))
    have x1 := Below.sub hS _ _ ((cell_at HA1.out 1).trans rfl : w1.cell? ⟨w.heap.size, 1, none⟩ = some (.string a.pkg))
    have x2 := Below.sub hS _ _ ((cell_at HA1.out 2).trans rfl : w1.cell? ⟨w.heap.size, 2, none⟩ = some (.string a.name))
    have x3 := Below.sub hS _ _ ((cell_at HA1.out 3).trans rfl : w1.cell? ⟨w.heap.size, 3, none⟩ = some (.slice A3 a.args.length c3))
    have x4 := Below.sub hS _ _ ((cell_at HA1.out 4).trans rfl : w1.cell? ⟨w.heap.size, 4, none⟩ = some (.slice A4 a.res.length c4))
    go_simp
    try rfl
  intro K hK
  go_simp
  refine hK _ ?_
  clear hK K
  apply wpT_get rfl
  · go_simp
  · intro wS hS
    have x0 := Below.sub hS _ _ ((cell_at HA1.out 0).trans rfl : w1.cell? ⟨w.heap.size, 0, none⟩ = some (.int .i64 a.kind))
    have x1 := Below.sub hS _ _ ((cell_at HA1.out 1).trans rfl : w1.cell? ⟨w.heap.size, 1, none⟩ = some (.string a.pkg))
    have x2 := Below.sub hS _ _ ((cell_at HA1.out 2).trans rfl : w1.cell? ⟨w.heap.size, 2, none⟩ = some (.string a.name))
    have x3 := Below.sub hS _ _ ((cell_at HA1.out 3).trans rfl : w1.cell? ⟨w.heap.size, 3, none⟩ = some (.slice A3 a.args.length c3))
    have x4 := Below.sub hS _ _ ((cell_at HA1.out 4).trans rfl : w1.cell? ⟨w.heap.size, 4, none⟩ = some (.slice A4 a.res.length c4))
    go_simp
    try rfl
  intro K hK
  go_simp
  refine hK _ ?_
  clear hK K
  refine wpT_one rfl (fun K hK => ?_)
  go_wp2_with fail
  refine (textC a HSZ.out.1 HLA.out w3 _ (HV1.out.sub (Below.sub HC3.out))).mono ?_
  rw [← HS.out]
  rintro e w4 ⟨rfl, hb⟩
  have HC4 := Lib.hid (show Below w1.heap.size w1 w4 from HC3.out.trans (hb.mono HC3.out.size))
  clear hb
  go_wp2_with fail
  refine hK _ _ HC4.out ?_
  clear hK K
  refine wpT_one rfl (fun K hK => ?_)
  go_wp2_with fail
  refine (rtextC a HSZ.out.1 HLA.out w4 _ (HV1.out.sub (Below.sub HC4.out))).mono ?_
  rw [← HS.out]
  rintro e w5 ⟨rfl, hb⟩
  have HC5 := Lib.hid (show Below w1.heap.size w1 w5 from HC4.out.trans (hb.mono HC4.out.size))
  clear hb
  go_wp2_with fail
  refine hK _ _ HC5.out ?_
  clear hK K
  apply wpT_get rfl
  · go_simp
  · intro wS hS
    go_simp
    try rfl
  intro K hK
  go_simp
  refine hK _ ?_
  clear hK K
  apply wpT_get rfl
  · go_simp
  · intro wS hS
    go_simp
    try rfl
  intro K hK
  go_simp
  refine hK _ ?_
  clear hK K
  apply wpT_get rfl
  · go_simp
  · intro wS hS
    go_simp
    try rfl
  intro K hK
  go_simp
  refine hK _ ?_
  clear hK K
  apply wpT_get rfl
  · go_simp
  · intro wS hS
    have x0 := Below.sub hS _ _ ((cell_at HBB1.out 0).trans rfl : w1.cell? ⟨w.heap.size + 1, 0, none⟩ = some (.int .i64 b.kind))
    have x1 := Below.sub hS _ _ ((cell_at HBB1.out 1).trans rfl : w1.cell? ⟨w.heap.size + 1, 1, none⟩ = some (.string b.pkg))
    have x2 := Below.sub hS _ _ ((cell_at HBB1.out 2).trans rfl : w1.cell? ⟨w.heap.size + 1, 2, none⟩ = some (.string b.name))
    have x3 := Below.sub hS _ _ ((cell_at HBB1.out 3).trans rfl : w1.cell? ⟨w.heap.size + 1, 3, none⟩ = some (.slice B3 b.args.length d3))
    have x4 := Below.sub hS _ _ ((cell_at HBB1.out 4).trans rfl : w1.cell? ⟨w.heap.size + 1, 4, none⟩ = some (.slice B4 b.res.length d4))
    go_simp
    try rfl
  intro K hK
  go_simp
  refine hK _ ?_
  clear hK K
  apply wpT_get rfl
  · go_simp
  · intro wS hS
    have x0 := Below.sub hS _ _ ((cell_at HBB1.out 0).trans rfl : w1.cell? ⟨w.heap.size + 1, 0, none⟩ = some (.int .i64 b.kind))
    have x1 := Below.sub hS _ _ ((cell_at HBB1.out 1).trans rfl : w1.cell? ⟨w.heap.size + 1, 1, none⟩ = some (.string b.pkg))
    have x2 := Below.sub hS _ _ ((cell_at HBB1.out 2).trans rfl : w1.cell? ⟨w.heap.size + 1, 2, none⟩ = some (.string b.name))
    have x3 := Below.sub hS _ _ ((cell_at HBB1.out 3).trans rfl : w1.cell? ⟨w.heap.size + 1, 3, none⟩ = some (.slice B3 b.args.length d3))
    have x4 := Below.sub hS _ _ ((cell_at HBB1.out 4).trans rfl : w1.cell? ⟨w.heap.size + 1, 4, none⟩ = some (.slice B4 b.res.length d4))
    go_simp
    try rfl
  intro K hK
  go_simp
  refine hK _ ?_
  clear hK K
  refine wpT_one rfl (fun K hK => ?_)
  go_wp2_with fail
  refine (textC b HSZ.out.2 HLB.out w5 _ (HU1.out.sub (Below.sub HC5.out))).mono ?_
  rw [← HUU.out]
  rintro e w6 ⟨rfl, hb⟩
  have HC6 := Lib.hid (show Below w1.heap.size w1 w6 from HC5.out.trans (hb.mono HC5.out.size))
  clear hb
  go_wp2_with fail
  refine hK _ _ HC6.out ?_
  clear hK K
  refine wpT_one rfl (fun K hK => ?_)
  go_wp2_with fail
  refine (rtextC b HSZ.out.2 HLB.out w6 _ (HU1.out.sub (Below.sub HC6.out))).mono ?_
  rw [← HUU.out]
  rintro e w7 ⟨rfl, hb⟩
  have HC7 := Lib.hid (show Below w1.heap.size w1 w7 from HC6.out.trans (hb.mono HC6.out.size))
  clear hb
  go_wp2_with fail
  refine hK _ _ HC7.out ?_
  clear hK K
  apply wpT_get rfl
  · go_simp
  · intro wS hS
    go_simp
    try rfl
  intro K hK
  go_simp
  refine hK _ ?_
  clear hK K
  apply wpT_get rfl
  · go_simp
  · intro wS hS
    go_simp
    try rfl
  intro K hK
  go_simp
  refine hK _ ?_
  clear hK K
  apply wpT_get rfl
  · go_simp
  · intro wS hS
    go_simp
    try rfl
  intro K hK
  go_simp
  refine hK _ ?_
  clear hK K
  apply wpT_get rfl
  · go_simp
  · intro wS hS
    have x0 := Below.sub hS _ _ ((cell_at HA1.out 0).trans rfl : w1.cell? ⟨w.heap.size, 0, none⟩ = some (.int .i64 a.kind))
    have x1 := Below.sub hS _ _ ((cell_at HA1.out 1).trans rfl : w1.cell? ⟨w.heap.size, 1, none⟩ = some (.string a.pkg))
    have x2 := Below.sub hS _ _ ((cell_at HA1.out 2).trans rfl : w1.cell? ⟨w.heap.size, 2, none⟩ = some (.string a.name))
    have x3 := Below.sub hS _ _ ((cell_at HA1.out 3).trans rfl : w1.cell? ⟨w.heap.size, 3, none⟩ = some (.slice A3 a.args.length c3))
    have x4 := Below.sub hS _ _ ((cell_at HA1.out 4).trans rfl : w1.cell? ⟨w.heap.size, 4, none⟩ = some (.slice A4 a.res.length c4))
    go_simp
    try rfl
  intro K hK
  go_simp
  refine hK _ ?_
  clear hK K
  apply wpT_get rfl
  · go_simp
  · intro wS hS
    have x0 := Below.sub hS _ _ ((cell_at HA1.out 0).trans rfl : w1.cell? ⟨w.heap.size, 0, none⟩ = some (.int .i64 a.kind))
    have x1 := Below.sub hS _ _ ((cell_at HA1.out 1).trans rfl : w1.cell? ⟨w.heap.size, 1, none⟩ = some (.string a.pkg))
    have x2 := Below.sub hS _ _ ((cell_at HA1.out 2).trans rfl : w1.cell? ⟨w.heap.size, 2, none⟩ = some (.string a.name))
    have x3 := Below.sub hS _ _ ((cell_at HA1.out 3).trans rfl : w1.cell? ⟨w.heap.size, 3, none⟩ = some (.slice A3 a.args.length c3))
    have x4 := Below.sub hS _ _ ((cell_at HA1.out 4).trans rfl : w1.cell? ⟨w.heap.size, 4, none⟩ = some (.slice A4 a.res.length c4))
    go_simp
    try rfl
  intro K hK
  go_simp
  refine hK _ ?_
  clear hK K
  refine wpT_one rfl (fun K hK => ?_)
  go_wp2_with fail
  refine (keqTyV a a w7 _ _ (HV1.out.sub (Below.sub HC7.out)) (HV1.out.sub (Below.sub HC7.out))).mono ?_
  rw [(eqTy_iff a a).2 rfl]
  rintro e w8 ⟨rfl, hb⟩
  have HC8 := Lib.hid (show Below w1.heap.size w1 w8 from HC7.out.trans (hb.mono HC7.out.size))
  clear hb
  go_wp2_with fail
  refine hK _ _ HC8.out ?_
  clear hK K
  apply wpT_get rfl
  · go_simp
  · intro wS hS
    go_simp
    try rfl
  intro K hK
  go_simp
  refine hK _ ?_
  clear hK K
  apply wpT_get rfl
  · go_simp
  · intro wS hS
    go_simp
    try rfl
  intro K hK
  go_simp
  refine hK _ ?_
  clear hK K
  refine wpT_one rfl (fun K hK => ?_)
  go_wp2_with fail
  refine (awake_any w8).mono ?_
  rintro e w9 ⟨rfl, hb⟩
  have HC9 := Lib.hid (show Below w1.heap.size w1 w9 from HC8.out.trans (hb.mono HC8.out.size))
  clear hb
  go_wp2_with fail
  refine hK _ _ HC9.out ?_
  clear hK K
  apply wpT_get rfl
  · go_simp
  · intro wS hS
    go_simp
    try rfl
  intro K hK
  go_simp
  refine hK _ ?_
  clear hK K
  apply wpT_get rfl
  · go_simp
  · intro wS hS
    go_simp
    try rfl
  intro K hK
  go_simp
  refine hK _ ?_
  clear hK K
  refine wpT_doneN ?_
  go_wp2_with fail
  exact bodyPost_ret (results_tmp rfl _ _ _) rfl ⟨rfl, HB1.out.trans (HC9.out.mono HB1.out.size)⟩
end Go.Proofs.Ytiecbgclkdlpkaa
