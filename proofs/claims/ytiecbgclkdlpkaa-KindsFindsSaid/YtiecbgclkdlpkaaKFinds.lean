/-
  The walk of KindsFinds. The condition: what is handed in reads.
-/
import Derived.Test.YtiecbgclkdlpkaaKFindC
import Derived.Test.YtiecbgclkdlpkaaKAwake
import Derived.Test.YtiecbgclkdlpkaaKGreat
import Derived.Test.YtiecbgclkdlpkaaSame7
namespace Go.Proofs.Ytiecbgclkdlpkaa
open Go.RowKit
set_option linter.unusedVariables false
set_option linter.unusedSimpArgs false

set_option maxRecDepth 100000 in
set_option maxHeartbeats 3200000 in
theorem kindsFinds_any (w : World) (us : List Un) (p s : ByteArray) (A : Option Addr) (c : Nat) (hl : SL w 4 (Un.ds us) us.length A c) : Calls Try.prog 8 #[.slice A us.length c, .string p, .string s] w (Ans w (.bool true)) := by
  have HG := Lib.hid (units_any w us A c hl)
  have HL := Lib.hid hl
  clear hl
  go_enter Try.func8, Try.ntmps8
  go_wp2_with fail
  refine HG.out.mono ?_
  rintro e w1 ⟨g, rfl, _, hb⟩
  have HB1 := Lib.hid hb
  clear hb
  cases g with
  | true =>
    go_wp2_with fail
    refine (awake_any w1).mono ?_
    rintro e w2 ⟨rfl, hb⟩
    have HB2 := Lib.hid (HB1.out.trans (hb.mono HB1.out.size)); clear hb
    go_wp2_with fail
    exact bodyPost_ret (results_tmp rfl _ _ _) rfl ⟨rfl, HB2.out⟩
  | false =>
    go_wp2_with fail
    obtain ⟨r, hr⟩ : ∃ r, r = findP us p s := ⟨_, rfl⟩
    obtain ⟨d, hd⟩ : ∃ d, d = r.getD dcl0 := ⟨_, rfl⟩
    obtain ⟨q, hq⟩ : ∃ q, q = r.isSome := ⟨_, rfl⟩
    refine (find_any w w1 HB1.out us p s A c HL.out).mono ?_
    rw [← hr]
    rintro e w2 ⟨vs, he, hv, hb⟩
    rw [← hd] at hv
    rw [← hq] at he
    subst he
    have HR := Lib.hid hr; have HD := Lib.hid hd; have HQ := Lib.hid hq
    have HB2 := Lib.hid (HB1.out.trans (hb.mono HB1.out.size))
    have HV := Lib.hid hv
    obtain ⟨A7, c7, A8, c8, A9, c9, rfl, y0, y1, y2, y3, y4, y5, y6, y7, y8, y9⟩ := Dcl.opn hv
    clear hr hd hq hv hb y0 y1 y2 y3 y4 y5 y6 y7 y8 y9
    have HA2 := Lib.hid ((Below.refl w2.heap.size w2).alloc (Nat.le_refl _) (.cells #[.int .i64 d.kind, .string d.name, .string d.of, .int .i64 d.value, .int .i64 d.type.kind, .string d.type.pkg, .string d.type.name, .slice A7 d.type.args.length c7, .slice A8 d.type.res.length c8, .slice A9 d.fields.length c9] 46))
    have HB3 := Lib.hid (HB2.out.trans (HA2.out.mono HB2.out.size))
    have HBK := Lib.hid (alloc_at w2 (.cells #[.int .i64 d.kind, .string d.name, .string d.of, .int .i64 d.value, .int .i64 d.type.kind, .string d.type.pkg, .string d.type.name, .slice A7 d.type.args.length c7, .slice A8 d.type.res.length c8, .slice A9 d.fields.length c9] 46))
    go_wp2_with fail
    refine (rfind_any w _ HB3.out us p s A c HL.out).mono ?_
    rw [← HR.out]
    rintro e w4 ⟨vs, he, hv, hb⟩
    rw [← HD.out] at hv
    rw [← HQ.out] at he
    subst he
    have HB4 := Lib.hid (HB3.out.trans (hb.mono HB3.out.size))
    have HV2 := Lib.hid hv
    have HK4 := Lib.hid ((hb.block _ (lt_of_block HBK.out)).trans HBK.out)
    obtain ⟨B7, e7, B8, e8, B9, e9, rfl, y0, y1, y2, y3, y4, y5, y6, y7, y8, y9⟩ := Dcl.opn hv
    clear hv hb y0 y1 y2 y3 y4 y5 y6 y7 y8 y9
    have hlt : w2.heap.size < w4.heap.size := lt_of_block HK4.out
    have k0 : w4.cell? ⟨w2.heap.size, 0, none⟩ = some (.int .i64 d.kind) := (cell_at HK4.out 0).trans rfl
    have k1 : w4.cell? ⟨w2.heap.size, 1, none⟩ = some (.string d.name) := (cell_at HK4.out 1).trans rfl
    have k2 : w4.cell? ⟨w2.heap.size, 2, none⟩ = some (.string d.of) := (cell_at HK4.out 2).trans rfl
    have k3 : w4.cell? ⟨w2.heap.size, 3, none⟩ = some (.int .i64 d.value) := (cell_at HK4.out 3).trans rfl
    have k4 : w4.cell? ⟨w2.heap.size, 4, none⟩ = some (.int .i64 d.type.kind) := (cell_at HK4.out 4).trans rfl
    have k5 : w4.cell? ⟨w2.heap.size, 5, none⟩ = some (.string d.type.pkg) := (cell_at HK4.out 5).trans rfl
    have k6 : w4.cell? ⟨w2.heap.size, 6, none⟩ = some (.string d.type.name) := (cell_at HK4.out 6).trans rfl
    have k7 : w4.cell? ⟨w2.heap.size, 7, none⟩ = some (.slice A7 d.type.args.length c7) := (cell_at HK4.out 7).trans rfl
    have k8 : w4.cell? ⟨w2.heap.size, 8, none⟩ = some (.slice A8 d.type.res.length c8) := (cell_at HK4.out 8).trans rfl
    have k9 : w4.cell? ⟨w2.heap.size, 9, none⟩ = some (.slice A9 d.fields.length c9) := (cell_at HK4.out 9).trans rfl
    have HA4 := Lib.hid ((Below.refl w4.heap.size w4).alloc (Nat.le_refl _) (.cells #[.int .i64 d.kind, .string d.name, .string d.of, .int .i64 d.value, .int .i64 d.type.kind, .string d.type.pkg, .string d.type.name, .slice B7 d.type.args.length e7, .slice B8 d.type.res.length e8, .slice B9 d.fields.length e9] 46))
    have HB5 := Lib.hid (HB4.out.trans (HA4.out.mono HB4.out.size))
    go_wp2_with fail
    refine (eqDclV d d _ _ _ (HV.out.sub (Below.sub HB5.out)) (HV2.out.sub (Below.sub HB5.out))).mono ?_
    rw [(eqDcl_iff d d).2 rfl]
    rintro e w6 ⟨rfl, hb⟩
    have HB6 := Lib.hid (HB5.out.trans (hb.mono HB5.out.size)); clear hb
    go_wp2_with fail
    refine (awake_any w6).mono ?_
    rintro e w7 ⟨rfl, hb⟩
    have HB7 := Lib.hid (HB6.out.trans (hb.mono HB6.out.size)); clear hb
    go_wp2_with fail
    exact bodyPost_ret (results_tmp rfl _ _ _) rfl ⟨rfl, HB7.out⟩
end Go.Proofs.Ytiecbgclkdlpkaa
