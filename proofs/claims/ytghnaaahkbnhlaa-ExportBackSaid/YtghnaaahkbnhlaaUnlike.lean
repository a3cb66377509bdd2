/-
  The walk of mortiselaw8.ExportUnlike: it answers true. The conditions: both units read.
-/
import Derived.Test.YtghnaaahkbnhlaaAwake
import Derived.Test.YtghnaaahkbnhlaaSame
import Derived.Test.YtghnaaahkbnhlaaBulk
import Derived.Test.YtghnaaahkbnhlaaInj
namespace Go.Proofs.Ytghnaaahkbnhlaa
open Go.RowKit
set_option linter.unusedVariables false
set_option linter.unusedSimpArgs false
attribute [local irreducible] wpStill wpOrd

theorem conv_rdB {P : Program} {w : World} (src dst e : TypeId) (hs : P.underlying src = some (.slice e)) (he : P.underlying e = some (.int .u8)) (hd : P.underlying dst = some .string) {A : Option Addr} {l : List UInt8} (c : Nat) (h : RdB w A l) (hn : 0 < l.length) :
    (convert src dst (.slice A l.length c)).run P w = .ok (.string ⟨l.toArray⟩) w := by
  obtain ⟨b, off, rfl, _⟩ := h 0 hn
  refine conv_bytes src dst e hs he hd b off c l fun i x hx => ?_
  obtain ⟨hi, rfl⟩ := List.getElem?_eq_some_iff.1 hx
  obtain ⟨b', o', hA, hc⟩ := h i hi
  simp only [Option.some.injEq, Addr.mk.injEq, and_true] at hA
  obtain ⟨rfl, rfl⟩ := hA
  exact hc
theorem encodeP_pos {u : Un} (h : (encodeP u).2 = 0) : 0 < (encodeP u).1.length := by
  unfold encodeP at *
  split at h
  · simp at h
  · split at h
    · rename_i h1 h2
      rw [if_neg h1, if_pos h2, List.length_append, le8_length]; omega
    · simp at h
theorem encodeP_eq {u v : Un} (hu : okUn u) (hv : okUn v) (h1 : (encodeP u).2 = 0) (h2 : (encodeP v).2 = 0) : ((⟨(encodeP u).1.toArray⟩ : ByteArray).toList == (⟨(encodeP v).1.toArray⟩ : ByteArray).toList) = eqUn u v := by
  rw [Bool.eq_iff_iff, ba_list, eqUn_iff]
  constructor
  · intro h
    have h3 : (encodeP u).1.toArray = (encodeP v).1.toArray := by injection h
    exact encodeP_inj hu hv h1 h2 (by simpa using h3)
  · rintro rfl; rfl

set_option maxRecDepth 100000 in
set_option maxHeartbeats 3200000 in
theorem unlike_any (u v : Un) (w : World) (vs us : List Value) (hu : Vals w u.d vs) (hv : Vals w v.d us) : Calls Try.prog 4 #[.agg vs.toArray, .agg us.toArray] w (Ans w (.bool true)) := by
  have OU := Lib.hid (okUn_of hu); have OV := Lib.hid (okUn_of hv)
  have HU := Lib.hid hu; have HV := Lib.hid hv
  obtain ⟨A1, c1, A2, c2, A3, c3, rfl, q0, q1, q2, q3⟩ := Un.opn hu
  obtain ⟨A1', c1', A2', c2', A3', c3', rfl, q0', q1', q2', q3'⟩ := Un.opn hv
  have hw2 : Below w.heap.size w ((w.alloc (.cells #[.string u.pkg, .slice A1 u.imports.length c1, .slice A2 u.decls.length c2, .slice A3 u.bodies.length c3] 30)).alloc (.cells #[.string v.pkg, .slice A1' v.imports.length c1', .slice A2' v.decls.length c2', .slice A3' v.bodies.length c3'] 30)) := ((Below.refl _ w).alloc (Nat.le_refl _) _).alloc (by simp) _
  have hA1 := alloc_old (alloc_at w (.cells #[.string u.pkg, .slice A1 u.imports.length c1, .slice A2 u.decls.length c2, .slice A3 u.bodies.length c3] 30)) (.cells #[.string v.pkg, .slice A1' v.imports.length c1', .slice A2' v.decls.length c2', .slice A3' v.bodies.length c3'] 30)
  have hA2 := alloc_at (w.alloc (.cells #[.string u.pkg, .slice A1 u.imports.length c1, .slice A2 u.decls.length c2, .slice A3 u.bodies.length c3] 30)) (.cells #[.string v.pkg, .slice A1' v.imports.length c1', .slice A2' v.decls.length c2', .slice A3' v.bodies.length c3'] 30)
  rw [World.size_alloc] at hA2
  have EU0 := Lib.hid ((cell_at hA1 0).trans rfl : _ = some (.string u.pkg))
  have EV0 := Lib.hid ((cell_at hA2 0).trans rfl : _ = some (.string v.pkg))
  have EU1 := Lib.hid ((cell_at hA1 1).trans rfl : _ = some (.slice A1 u.imports.length c1))
  have EV1 := Lib.hid ((cell_at hA2 1).trans rfl : _ = some (.slice A1' v.imports.length c1'))
  have EU2 := Lib.hid ((cell_at hA1 2).trans rfl : _ = some (.slice A2 u.decls.length c2))
  have EV2 := Lib.hid ((cell_at hA2 2).trans rfl : _ = some (.slice A2' v.decls.length c2'))
  have EU3 := Lib.hid ((cell_at hA1 3).trans rfl : _ = some (.slice A3 u.bodies.length c3))
  have EV3 := Lib.hid ((cell_at hA2 3).trans rfl : _ = some (.slice A3' v.bodies.length c3'))
  have HA1 := Lib.hid hA1; have HA2 := Lib.hid hA2; have HW := Lib.hid hw2; clear hA1 hA2 hw2 hu hv q0 q1 q2 q3 q0' q1' q2' q3'
  go_enter Try.func4, Try.ntmps4
  go_wp2_with fail
  refine (great_any u _ _ (HU.out.sub (Below.sub HW.out))).mono ?_
  rintro e w1 ⟨g, rfl, hg, hb1⟩
  clear hg
  have B1 := Lib.hid (HW.out.trans (hb1.mono HW.out.size))
  have C1 := Lib.hid hb1; clear hb1
  cases g
  case true =>
    go_wp2_with fail
    refine (awake_any _).mono ?_
    rintro e wz ⟨rfl, hb⟩
    have BZ := Lib.hid (B1.out.trans (hb.mono B1.out.size)); clear hb
    go_wp2_with fail
    exact bodyPost_ret (results_tmp rfl _ _ _) rfl ⟨rfl, BZ.out⟩
  have y0 := Below.sub C1.out _ _ EV0.out
  have y1 := Below.sub C1.out _ _ EV1.out
  have y2 := Below.sub C1.out _ _ EV2.out
  have y3 := Below.sub C1.out _ _ EV3.out
  go_wp2_with fail
  refine (great_any v _ _ (HV.out.sub (Below.sub B1.out))).mono ?_
  rintro e w2 ⟨g, rfl, hg, hb2⟩
  clear hg
  clear y0 y1 y2 y3
  have B2 := Lib.hid (B1.out.trans (hb2.mono B1.out.size))
  have C2 := Lib.hid (C1.out.trans (hb2.mono C1.out.size)); clear hb2
  cases g
  case true =>
    go_wp2_with fail
    refine (awake_any _).mono ?_
    rintro e wz ⟨rfl, hb⟩
    have BZ := Lib.hid (B2.out.trans (hb.mono B2.out.size)); clear hb
    go_wp2_with fail
    exact bodyPost_ret (results_tmp rfl _ _ _) rfl ⟨rfl, BZ.out⟩
  have x0 := Below.sub C2.out _ _ EU0.out
  have x1 := Below.sub C2.out _ _ EU1.out
  have x2 := Below.sub C2.out _ _ EU2.out
  have x3 := Below.sub C2.out _ _ EU3.out
  go_wp2_with fail
  refine (encode_any _ u _ (HU.out.sub (Below.sub B2.out))).mono ?_
  rintro e w3 ⟨A, c, rfl, own1, hb3⟩
  have R1 := Lib.hid (rdB_own own1).2; clear own1
  clear x0 x1 x2 x3
  have B3 := Lib.hid (B2.out.trans (hb3.mono B2.out.size))
  have C3 := Lib.hid (C2.out.trans (hb3.mono C2.out.size)); clear hb3
  have y0 := Below.sub C3.out _ _ EV0.out
  have y1 := Below.sub C3.out _ _ EV1.out
  have y2 := Below.sub C3.out _ _ EV2.out
  have y3 := Below.sub C3.out _ _ EV3.out
  go_wp2_with fail
  refine (encode_any _ v _ (HV.out.sub (Below.sub B3.out))).mono ?_
  rintro e w4 ⟨A', c', rfl, own2, hb4⟩
  have R2 := Lib.hid (rdB_own own2).2; clear own2
  have R1 := Lib.hid (R1.out.sub (Below.sub hb4))
  clear y0 y1 y2 y3
  have B4 := Lib.hid (B3.out.trans (hb4.mono B3.out.size))
  have C4 := Lib.hid (C3.out.trans (hb4.mono C3.out.size)); clear hb4
  by_cases h1 : (encodeP u).2 = 0
  case neg =>
    have n1 : ((encodeP u).2 != 0) = true := by simp [h1]
    go_wp2_with (go_at_call 14; go_in)
    refine (awake_any _).mono ?_
    rintro e wz ⟨rfl, hb⟩
    have BZ := Lib.hid (B4.out.trans (hb.mono B4.out.size)); clear hb
    go_wp2_with fail
    exact bodyPost_ret (results_tmp rfl _ _ _) rfl ⟨rfl, BZ.out⟩
  by_cases h2 : (encodeP v).2 = 0
  case neg =>
    have n1 : ((encodeP v).2 != 0) = true := by simp [h2]
    have H1 := Lib.hid h1
    rw [h1]
    clear h1
    go_wp2_with (go_at_call 14; go_in)
    refine (awake_any _).mono ?_
    rintro e wz ⟨rfl, hb⟩
    have BZ := Lib.hid (B4.out.trans (hb.mono B4.out.size)); clear hb
    go_wp2_with fail
    exact bodyPost_ret (results_tmp rfl _ _ _) rfl ⟨rfl, BZ.out⟩
  have Z := encodeP_eq OU.out OV.out h1 h2
  have P1 := Lib.hid (encodeP_pos h1); have P2 := Lib.hid (encodeP_pos h2)
  rw [h1, h2]
  clear h1 h2
  have x0 := Below.sub C4.out _ _ EU0.out
  have x1 := Below.sub C4.out _ _ EU1.out
  have x2 := Below.sub C4.out _ _ EU2.out
  have x3 := Below.sub C4.out _ _ EU3.out
  have y0 := Below.sub C4.out _ _ EV0.out
  have y1 := Below.sub C4.out _ _ EV1.out
  have y2 := Below.sub C4.out _ _ EV2.out
  have y3 := Below.sub C4.out _ _ EV3.out
  have K1 := fun (wS : World) (hS : Since w4 wS) => conv_rdB (P := Try.prog) (w := wS) 22 9 5 Try.underlying22 Try.underlying5 Try.underlying9 c (R1.out.sub (Below.sub hS)) P1.out
  have K2 := fun (wS : World) (hS : Since w4 wS) => conv_rdB (P := Try.prog) (w := wS) 22 9 5 Try.underlying22 Try.underlying5 Try.underlying9 c' (R2.out.sub (Below.sub hS)) P2.out
  have HK1 := Lib.hid K1; have HK2 := Lib.hid K2; clear K1 K2
  generalize eqs : (⟨(encodeP u).1.toArray⟩ : ByteArray) = s1 at Z HK1
  generalize eqt : (⟨(encodeP v).1.toArray⟩ : ByteArray) = s2 at Z HK2
  clear eqs eqt
  cases zz : eqUn u v
  case false =>
    have ZZ := Lib.hid zz
    rw [zz] at Z
    clear zz
    go_wp2_with (go_at_call 14; go_in)
    refine wp_region_ordN (Since w4) [(0, false), (1, false), (2, false), (3, false), (4, false), (5, false), (6, false), (7, true), (8, false), (9, false), (10, true), (11, false), (12, false)] (by kernel_rfl) (by kernel_rfl) (Below.drew (Below.refl _ _)) ?_
    apply wpOrd_get rfl
    · go_simp
    · intro wS hS
      go_simp
      try rfl
    intro K hK
    go_simp
    refine hK _ ?_
    clear hK K
    apply wpOrd_get rfl
    · go_simp
    · intro wS hS
      have hk := HK1.out wS hS
      go_simp
      try rfl
    intro K hK
    go_simp
    refine hK _ ?_
    clear hK K
    apply wpOrd_get rfl
    · go_simp
    · intro wS hS
      go_simp
      try rfl
    intro K hK
    go_simp
    refine hK _ ?_
    clear hK K
    apply wpOrd_get rfl
    · go_simp
    · intro wS hS
      have hk := HK2.out wS hS
      go_simp
      try rfl
    intro K hK
    go_simp
    refine hK _ ?_
    clear hK K
    apply wpOrd_get rfl
    · go_simp
    · intro wS hS
      go_simp
      try rfl
    intro K hK
    go_simp
    refine hK _ ?_
    clear hK K
    apply wpOrd_get rfl
    · go_simp
    · intro wS hS
      have x0 := hS.cell x0; have x1 := hS.cell x1; have x2 := hS.cell x2; have x3 := hS.cell x3
      go_simp
      try rfl
    intro K hK
    go_simp
    refine hK _ ?_
    clear hK K
    apply wpOrd_get rfl
    · go_simp
    · intro wS hS
      have y0 := hS.cell y0; have y1 := hS.cell y1; have y2 := hS.cell y2; have y3 := hS.cell y3
      go_simp
      try rfl
    intro K hK
    go_simp
    refine hK _ ?_
    clear hK K
    refine wpOrd_loud rfl (fun K hK => ?_)
    go_wp2_with fail
    refine (same_any u v _ _ _ (HU.out.sub (Below.sub B4.out.drew)) (HV.out.sub (Below.sub B4.out.drew))).mono ?_
    rintro e w5 he
    obtain ⟨rfl, hb5⟩ := he.bool ZZ.out; clear he
    have S5 : Since w4 w5 := Since.next (w := w4.drew) (Below.drew (Below.refl _ _)) hb5
    have B5 := Lib.hid (B4.out.drew.trans (hb5.mono B4.out.drew.size)); clear hb5
    go_wp2_with fail
    refine hK _ _ S5 ?_
    clear hK K
    apply wpOrd_get rfl
    · go_simp
    · intro wS hS
      go_simp
      try rfl
    intro K hK
    go_simp
    refine hK _ ?_
    clear hK K
    apply wpOrd_get rfl
    · go_simp
    · intro wS hS
      go_simp
      try rfl
    intro K hK
    go_simp
    refine hK _ ?_
    clear hK K
    refine wpOrd_loud rfl (fun K hK => ?_)
    go_wp2_with fail
    refine (awake_any _).mono ?_
    rintro e w6 ⟨rfl, hb6⟩
    have S6 : Since w4 w6 := Since.next S5 hb6
    have B6 := Lib.hid (B5.out.trans (hb6.mono B5.out.size)); clear hb6
    go_wp2_with fail
    refine hK _ _ S6 ?_
    clear hK K
    apply wpOrd_get rfl
    · go_simp
    · intro wS hS
      go_simp
      try rfl
    intro K hK
    go_simp
    refine hK _ ?_
    clear hK K
    apply wpOrd_get rfl
    · go_simp
    · intro wS hS
      go_simp
      try rfl
    intro K hK
    go_simp
    refine hK _ ?_
    clear hK K
    refine wpOrd_nilN ?_
    go_wp2_with fail
    exact bodyPost_ret (results_tmp rfl _ _ _) rfl ⟨rfl, B6.out⟩
  case true =>
    have ZZ := Lib.hid zz
    rw [zz] at Z
    clear zz
    go_wp2_with (go_at_call 14; go_in)
    refine wp_region_ordN (Since w4) [(0, false), (1, false), (2, false), (3, false), (4, false), (5, false), (6, false), (7, true), (8, false), (9, false), (10, true), (11, false), (12, false)] (by kernel_rfl) (by kernel_rfl) (Below.drew (Below.refl _ _)) ?_
    apply wpOrd_get rfl
    · go_simp
    · intro wS hS
      go_simp
      try rfl
    intro K hK
    go_simp
    refine hK _ ?_
    clear hK K
    apply wpOrd_get rfl
    · go_simp
    · intro wS hS
      have hk := HK1.out wS hS
      go_simp
      try rfl
    intro K hK
    go_simp
    refine hK _ ?_
    clear hK K
    apply wpOrd_get rfl
    · go_simp
    · intro wS hS
      go_simp
      try rfl
    intro K hK
    go_simp
    refine hK _ ?_
    clear hK K
    apply wpOrd_get rfl
    · go_simp
    · intro wS hS
      have hk := HK2.out wS hS
      go_simp
      try rfl
    intro K hK
    go_simp
    refine hK _ ?_
    clear hK K
    apply wpOrd_get rfl
    · go_simp
    · intro wS hS
      go_simp
      try rfl
    intro K hK
    go_simp
    refine hK _ ?_
    clear hK K
    apply wpOrd_get rfl
    · go_simp
    · intro wS hS
      have x0 := hS.cell x0; have x1 := hS.cell x1; have x2 := hS.cell x2; have x3 := hS.cell x3
      go_simp
      try rfl
    intro K hK
    go_simp
    refine hK _ ?_
    clear hK K
    apply wpOrd_get rfl
    · go_simp
    · intro wS hS
      have y0 := hS.cell y0; have y1 := hS.cell y1; have y2 := hS.cell y2; have y3 := hS.cell y3
      go_simp
      try rfl
    intro K hK
    go_simp
    refine hK _ ?_
    clear hK K
    refine wpOrd_loud rfl (fun K hK => ?_)
    go_wp2_with fail
    refine (same_any u v _ _ _ (HU.out.sub (Below.sub B4.out.drew)) (HV.out.sub (Below.sub B4.out.drew))).mono ?_
    rintro e w5 he
    obtain ⟨rfl, hb5⟩ := he.bool ZZ.out; clear he
    have S5 : Since w4 w5 := Since.next (w := w4.drew) (Below.drew (Below.refl _ _)) hb5
    have B5 := Lib.hid (B4.out.drew.trans (hb5.mono B4.out.drew.size)); clear hb5
    go_wp2_with fail
    refine hK _ _ S5 ?_
    clear hK K
    apply wpOrd_get rfl
    · go_simp
    · intro wS hS
      go_simp
      try rfl
    intro K hK
    go_simp
    refine hK _ ?_
    clear hK K
    apply wpOrd_get rfl
    · go_simp
    · intro wS hS
      go_simp
      try rfl
    intro K hK
    go_simp
    refine hK _ ?_
    clear hK K
    refine wpOrd_loud rfl (fun K hK => ?_)
    go_wp2_with fail
    refine (awake_any _).mono ?_
    rintro e w6 ⟨rfl, hb6⟩
    have S6 : Since w4 w6 := Since.next S5 hb6
    have B6 := Lib.hid (B5.out.trans (hb6.mono B5.out.size)); clear hb6
    go_wp2_with fail
    refine hK _ _ S6 ?_
    clear hK K
    apply wpOrd_get rfl
    · go_simp
    · intro wS hS
      go_simp
      try rfl
    intro K hK
    go_simp
    refine hK _ ?_
    clear hK K
    apply wpOrd_get rfl
    · go_simp
    · intro wS hS
      go_simp
      try rfl
    intro K hK
    go_simp
    refine hK _ ?_
    clear hK K
    refine wpOrd_nilN ?_
    go_wp2_with fail
    exact bodyPost_ret (results_tmp rfl _ _ _) rfl ⟨rfl, B6.out⟩
end Go.Proofs.Ytghnaaahkbnhlaa
