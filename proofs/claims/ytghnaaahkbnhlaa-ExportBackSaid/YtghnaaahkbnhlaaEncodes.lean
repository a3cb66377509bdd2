/-
  The walk of mortiselaw8.ExportEncodes: it answers true; ahead of it both Hash, and what a unit that is not great costs. The condition: the unit reads.
-/
import Derived.Test.YtghnaaahkbnhlaaRwE
import Derived.Test.YtghnaaahkbnhlaaBulk
import Derived.Test.YtghnaaahkbnhlaaAwake
namespace Go.Proofs.Ytghnaaahkbnhlaa
open Go.RowKit
set_option linter.unusedVariables false
set_option linter.unusedSimpArgs false
attribute [local irreducible] wpStill wpOrd

mutual
theorem Ty.cost_le : ∀ t : Ty, t.cost ≤ 600000 * t.sz
  | .mk _ _ _ xs ys => by
    have h1 := Ty.costL_sz xs; have h2 := Ty.costL_sz ys
    simp only [Ty.cost, Ty.sz]
    omega
theorem Ty.costL_sz : ∀ l : List Ty, Ty.costL l ≤ 600000 * Ty.szL l
  | [] => by simp [Ty.costL]
  | t :: r => by
    have h1 := Ty.cost_le t; have h2 := Ty.costL_sz r
    simp only [Ty.costL, Ty.szL]
    omega
end
mutual
theorem Ex.cost_le : ∀ t : Ex, t.cost ≤ 600000 * t.sz
  | .mk _ _ _ xs => by
    have h1 := Ex.costL_sz xs
    simp only [Ex.cost, Ex.sz]
    omega
theorem Ex.costL_sz : ∀ l : List Ex, Ex.costL l ≤ 600000 * Ex.szL l
  | [] => by simp [Ex.costL]
  | t :: r => by
    have h1 := Ex.cost_le t; have h2 := Ex.costL_sz r
    simp only [Ex.costL, Ex.szL]
    omega
end
mutual
theorem St.cost_le : ∀ t : St, t.cost ≤ 600000 * t.sz
  | .mk _ _ es b c => by
    have h0 := Ex.costL_sz es; have h1 := St.costL_sz b; have h2 := St.costL_sz c
    simp only [St.cost, St.sz]
    omega
theorem St.costL_sz : ∀ l : List St, St.costL l ≤ 600000 * St.szL l
  | [] => by simp [St.costL]
  | t :: r => by
    have h1 := St.cost_le t; have h2 := St.costL_sz r
    simp only [St.costL, St.szL]
    omega
end
theorem Ty.sz_pos (t : Ty) : 1 ≤ t.sz := by rw [Ty.sz_eq]; omega
theorem Fld.costL_sz : ∀ l : List Fld, Fld.costL l ≤ 1000000 * Fld.szL l
  | [] => by simp [Fld.costL]
  | t :: r => by
    have h1 := Ty.cost_le t.type; have h2 := Fld.costL_sz r; have h3 := Ty.sz_pos t.type
    simp only [Fld.costL, Fld.szL, Fld.cost, Fld.sz]
    omega
theorem Dcl.costL_sz : ∀ l : List Dcl, Dcl.costL l ≤ 2000000 * Dcl.szL l
  | [] => by simp [Dcl.costL]
  | t :: r => by
    have h1 := Ty.cost_le t.type; have h2 := Dcl.costL_sz r; have h3 := Ty.sz_pos t.type; have h4 := Fld.costL_sz t.fields
    simp only [Dcl.costL, Dcl.szL, Dcl.cost, Dcl.sz]
    omega
theorem Fn.costL_sz : ∀ l : List Fn, Fn.costL l ≤ 300000 * l.length + 600000 * Fn.szL l
  | [] => by simp [Fn.costL]
  | t :: r => by
    have h1 := St.costL_sz t.body; have h2 := Fn.costL_sz r
    simp only [Fn.costL, Fn.szL, Fn.cost, Fn.sz, List.length_cons]
    omega
theorem Imp.costL_sz : ∀ l : List Imp, Imp.costL l ≤ 300000 * l.length
  | [] => by simp [Imp.costL]
  | t :: r => by
    have h2 := Imp.costL_sz r
    simp only [Imp.costL, Imp.cost, List.length_cons]
    omega
theorem Un.cost_small (u : Un) (h : u.sz ≤ 3000) : Un.cost u + 12 ≤ 100000000000000 := by
  have h1 := Imp.costL_sz u.imports; have h2 := Dcl.costL_sz u.decls; have h3 := Fn.costL_sz u.bodies
  unfold Un.sz at h
  unfold Un.cost
  omega

/-- What Hash answers. -/
def hashP (u : Un) : Int := if (encodeP u).2 = 0 then fnv (encodeP u).1 else 0
theorem encodeP_len (u : Un) : (encodeP u).1.length ≤ Reach := by
  unfold encodeP Reach
  split
  · simp
  · split
    · rw [List.length_append, le8_length]; omega
    · simp
theorem encodeP_nil {u : Un} (h : (encodeP u).2 ≠ 0) : (encodeP u).1 = [] := by
  unfold encodeP at *
  split
  · rfl
  · split
    · rename_i h1 h2; rw [if_neg h1, if_pos h2] at h; exact absurd rfl h
    · rfl

set_option maxRecDepth 100000 in
set_option maxHeartbeats 800000 in
theorem xhash_any (w : World) (u : Un) (vs : List Value) (hv : Vals w u.d vs) : Calls Try.prog 17 #[.agg vs.toArray] w (Ans w (.int .i64 (hashP u))) := by
  have HU := Lib.hid hv
  obtain ⟨A1, c1, A2, c2, A3, c3, rfl, q0, q1, q2, q3⟩ := Un.opn hv
  have HA := Lib.hid (alloc_at w (.cells #[.string u.pkg, .slice A1 u.imports.length c1, .slice A2 u.decls.length c2, .slice A3 u.bodies.length c3] 30))
  have HW := Lib.hid ((Below.refl _ w).alloc (Nat.le_refl _) (.cells #[.string u.pkg, .slice A1 u.imports.length c1, .slice A2 u.decls.length c2, .slice A3 u.bodies.length c3] 30) : Below w.heap.size w (w.alloc (.cells #[.string u.pkg, .slice A1 u.imports.length c1, .slice A2 u.decls.length c2, .slice A3 u.bodies.length c3] 30)))
  clear hv q0 q1 q2 q3
  go_enter Try.func17, Try.ntmps17
  go_wp2_with fail
  refine (encode_any _ u _ (HU.out.sub (Below.sub HW.out))).mono ?_
  rintro e w1 ⟨A, c, rfl, own1, hb1⟩
  have R1 := Lib.hid (rdB_own own1).2; clear own1
  have B1 := Lib.hid (HW.out.trans (hb1.mono HW.out.size)); clear hb1
  by_cases h1 : (encodeP u).2 = 0
  · have HZ := Lib.hid (show hashP u = fnv (encodeP u).1 by rw [hashP, if_pos h1])
    rw [h1]
    clear h1
    go_wp2_with fail
    refine (sum_any _ (encodeP u).1 A c (encodeP_len u) R1.out).mono ?_
    rintro e w2 ⟨rfl, rfl⟩
    go_wp2_with fail
    refine bodyPost_ret (results_tmp rfl _ _ _) rfl ⟨?_, B1.out⟩
    rw [HZ.out]; rfl
  · have HZ := Lib.hid (show hashP u = 0 by rw [hashP, if_neg h1])
    have n1 : ((encodeP u).2 != 0) = true := by simp [h1]
    clear h1
    go_wp2_with fail
    refine bodyPost_ret (results_tmp rfl _ _ _) rfl ⟨?_, B1.out⟩
    rw [HZ.out]; rfl

set_option maxRecDepth 100000 in
set_option maxHeartbeats 800000 in
theorem rhash_any (w : World) (u : Un) (vs : List Value) (hv : Vals w u.d vs) (hb : Un.cost u + 12 ≤ 100000000000000) : Calls Try.prog 18 #[.agg vs.toArray] w (Ans w (.int .i64 (hashP u))) := by
  have HU := Lib.hid hv
  obtain ⟨A1, c1, A2, c2, A3, c3, rfl, q0, q1, q2, q3⟩ := Un.opn hv
  have HA := Lib.hid (alloc_at w (.cells #[.string u.pkg, .slice A1 u.imports.length c1, .slice A2 u.decls.length c2, .slice A3 u.bodies.length c3] 30))
  have HW := Lib.hid ((Below.refl _ w).alloc (Nat.le_refl _) (.cells #[.string u.pkg, .slice A1 u.imports.length c1, .slice A2 u.decls.length c2, .slice A3 u.bodies.length c3] 30) : Below w.heap.size w (w.alloc (.cells #[.string u.pkg, .slice A1 u.imports.length c1, .slice A2 u.decls.length c2, .slice A3 u.bodies.length c3] 30)))
  clear hv q0 q1 q2 q3
  go_enter Try.func18, Try.ntmps18
  go_wp2_with fail
  refine (rencode_any _ u _ (HU.out.sub (Below.sub HW.out)) hb).mono ?_
  rintro e w1 ⟨A, c, rfl, own1, hb1⟩
  have R1 := Lib.hid (rdB_own own1).2; clear own1
  have B1 := Lib.hid (HW.out.trans (hb1.mono HW.out.size)); clear hb1
  by_cases h1 : (encodeP u).2 = 0
  · have HZ := Lib.hid (show hashP u = fnv (encodeP u).1 by rw [hashP, if_pos h1])
    rw [h1]
    clear h1
    go_wp2_with fail
    refine (rsum_any _ (encodeP u).1 A c (encodeP_len u) R1.out).mono ?_
    rintro e w2 ⟨rfl, rfl⟩
    go_wp2_with fail
    refine bodyPost_ret (results_tmp rfl _ _ _) rfl ⟨?_, B1.out⟩
    rw [HZ.out]; rfl
  · have HZ := Lib.hid (show hashP u = 0 by rw [hashP, if_neg h1])
    have n1 : ((encodeP u).2 != 0) = true := by simp [h1]
    clear h1
    go_wp2_with fail
    refine bodyPost_ret (results_tmp rfl _ _ _) rfl ⟨?_, B1.out⟩
    rw [HZ.out]; rfl

theorem num_call (w : World) (n : Int) : Calls Try.prog 14 #[.int .i64 n] w fun e w' => e = .returned (.int .i64 n) ∧ w = w' := by
  go_enter Try.func14, Try.ntmps14
  go_wp2_with fail
  exact bodyPost_ret (results_tmp rfl _ _ _) rfl ⟨rfl, rfl⟩
/-- Bytes as a string: what there is to read, or none. -/
theorem conv_any {w : World} {A : Option Addr} {l : List UInt8} (c : Nat) (h : RdB w A l) (hA : A = none ∨ ∃ g, A = some ⟨g, 0, none⟩) :
    (convert 22 9 (.slice A l.length c)).run Try.prog w = .ok (.string ⟨l.toArray⟩) w := by
  rcases hA with rfl | ⟨g, rfl⟩
  · have hl : l = [] := by
      cases l with
      | nil => rfl
      | cons x r => obtain ⟨b, o, h0, _⟩ := h 0 (by simp); cases h0
    subst hl
    exact run_convert_bytes_nil w 22 5 Try.underlying22 Try.underlying5 0 c 9 Try.underlying9
  · refine conv_bytes 22 9 5 Try.underlying22 Try.underlying5 Try.underlying9 g 0 c l fun i x hx => ?_
    obtain ⟨hi, rfl⟩ := List.getElem?_eq_some_iff.1 hx
    obtain ⟨b', o', hA, hc⟩ := h i hi
    simp only [Option.some.injEq, Addr.mk.injEq, and_true] at hA
    obtain ⟨rfl, rfl⟩ := hA
    exact hc
theorem own_head {w : World} {base n m : Nat} {e : TypeId} {A : Option Addr} {c : Nat} {xs : List Value} (h : w.ownsRow base e 1 (.slice A n c) m xs) : A = none ∨ ∃ g, A = some ⟨g, 0, none⟩ := by
  rcases h.2 with ⟨h1, _⟩ | ⟨g, cap, cur, h1, _⟩
  · injection h1 with h2; exact .inl h2
  · injection h1 with h2; exact .inr ⟨g, h2⟩

set_option maxRecDepth 100000 in
set_option maxHeartbeats 3200000 in
theorem encodes_any (u : Un) (w : World) (vs : List Value) (hu : Vals w u.d vs) : Calls Try.prog 5 #[.agg vs.toArray] w (Ans w (.bool true)) := by
  have HU := Lib.hid hu
  obtain ⟨A1, c1, A2, c2, A3, c3, rfl, q0, q1, q2, q3⟩ := Un.opn hu
  have hA1 := alloc_at w (.cells #[.string u.pkg, .slice A1 u.imports.length c1, .slice A2 u.decls.length c2, .slice A3 u.bodies.length c3] 30)
  have EU0 := Lib.hid ((cell_at hA1 0).trans rfl : _ = some (.string u.pkg))
  have EU1 := Lib.hid ((cell_at hA1 1).trans rfl : _ = some (.slice A1 u.imports.length c1))
  have EU2 := Lib.hid ((cell_at hA1 2).trans rfl : _ = some (.slice A2 u.decls.length c2))
  have EU3 := Lib.hid ((cell_at hA1 3).trans rfl : _ = some (.slice A3 u.bodies.length c3))
  have HA1 := Lib.hid hA1
  have HW := Lib.hid ((Below.refl _ w).alloc (Nat.le_refl _) (.cells #[.string u.pkg, .slice A1 u.imports.length c1, .slice A2 u.decls.length c2, .slice A3 u.bodies.length c3] 30) : Below w.heap.size w (w.alloc (.cells #[.string u.pkg, .slice A1 u.imports.length c1, .slice A2 u.decls.length c2, .slice A3 u.bodies.length c3] 30)))
  clear hA1 hu q0 q1 q2 q3
  go_enter Try.func5, Try.ntmps5
  go_wp2_with fail
  refine (great_any u _ _ (HU.out.sub (Below.sub HW.out))).mono ?_
  rintro e w1 ⟨g, rfl, hg, hb1⟩
  have B1 := Lib.hid (HW.out.trans (hb1.mono HW.out.size))
  have C1 := Lib.hid hb1; clear hb1
  cases g
  case true =>
    clear hg
    go_wp2_with fail
    refine (awake_any _).mono ?_
    rintro e wz ⟨rfl, hb⟩
    have BZ := Lib.hid (B1.out.trans (hb.mono B1.out.size)); clear hb
    go_wp2_with fail
    exact bodyPost_ret (results_tmp rfl _ _ _) rfl ⟨rfl, BZ.out⟩
  have HC := Lib.hid (Un.cost_small u (hg rfl))
  clear hg
  have x0 := Below.sub C1.out _ _ EU0.out
  have x1 := Below.sub C1.out _ _ EU1.out
  have x2 := Below.sub C1.out _ _ EU2.out
  have x3 := Below.sub C1.out _ _ EU3.out
  go_wp2_with fail
  refine (encode_any _ u _ (HU.out.sub (Below.sub B1.out))).mono ?_
  rintro e w2 ⟨A, c, rfl, own1, hb2⟩
  have R1 := Lib.hid (rdB_own own1).2; have N1 := Lib.hid (own_head own1); clear own1
  clear x0 x1 x2 x3
  have B2 := Lib.hid (B1.out.trans (hb2.mono B1.out.size))
  have C2 := Lib.hid (C1.out.trans (hb2.mono C1.out.size)); clear hb2
  have x0 := Below.sub C2.out _ _ EU0.out
  have x1 := Below.sub C2.out _ _ EU1.out
  have x2 := Below.sub C2.out _ _ EU2.out
  have x3 := Below.sub C2.out _ _ EU3.out
  go_wp2_with fail
  refine (rencode_any _ u _ (HU.out.sub (Below.sub B2.out)) HC.out).mono ?_
  rintro e w3 ⟨A', c', rfl, own2, hb3⟩
  have R2 := Lib.hid (rdB_own own2).2; have N2 := Lib.hid (own_head own2); clear own2
  have R1 := Lib.hid (R1.out.sub (Below.sub hb3))
  clear x0 x1 x2 x3
  have B3 := Lib.hid (B2.out.trans (hb3.mono B2.out.size))
  have C3 := Lib.hid (C2.out.trans (hb3.mono C2.out.size)); clear hb3
  have x0 := Below.sub C3.out _ _ EU0.out
  have x1 := Below.sub C3.out _ _ EU1.out
  have x2 := Below.sub C3.out _ _ EU2.out
  have x3 := Below.sub C3.out _ _ EU3.out
  have HK1 := Lib.hid (fun (wS : World) (hS : Since w3 wS) => conv_any (w := wS) c (R1.out.sub (Below.sub hS)) N1.out)
  have HK2 := Lib.hid (fun (wS : World) (hS : Since w3 wS) => conv_any (w := wS) c' (R2.out.sub (Below.sub hS)) N2.out)
  have z1 : ((⟨(encodeP u).1.toArray⟩ : ByteArray).toList == (⟨(encodeP u).1.toArray⟩ : ByteArray).toList) = true := by simp
  generalize eqs : (⟨(encodeP u).1.toArray⟩ : ByteArray) = s1 at z1 HK1 HK2
  clear eqs
  have z2 : ((encodeP u).2 == (encodeP u).2) = true := by simp
  have z3 : (hashP u == hashP u) = true := by simp
  go_wp2_with fail
  refine wp_region_ordN (Since w3) [(0, false), (1, false), (2, false), (3, false), (4, false), (5, false), (6, false), (8, false), (7, true), (9, false), (10, false), (11, false), (12, false), (14, false), (13, true), (15, true), (16, false), (17, false), (18, false), (19, true), (20, false), (21, false)] (by kernel_rfl) (by kernel_rfl) (Below.drew (Below.refl _ _)) ?_
  apply wpOrd_get rfl
  · go_simp
  · intro wS hS
    go_simp
    try rfl
  intro K hK
  go_simp
  refine hK _ ?_
  clear hK K
  apply wpOrd_get rfl
  · go_simp
  · intro wS hS
    have hk := HK1.out wS hS
    go_simp
    try rfl
  intro K hK
  go_simp
  refine hK _ ?_
  clear hK K
  apply wpOrd_get rfl
  · go_simp
  · intro wS hS
    go_simp
    try rfl
  intro K hK
  go_simp
  refine hK _ ?_
  clear hK K
  apply wpOrd_get rfl
  · go_simp
  · intro wS hS
    have hk := HK2.out wS hS
    go_simp
    try rfl
  intro K hK
  go_simp
  refine hK _ ?_
  clear hK K
  apply wpOrd_get rfl
  · go_simp
  · intro wS hS
    go_simp
    try rfl
  intro K hK
  go_simp
  refine hK _ ?_
  clear hK K
  apply wpOrd_get rfl
  · go_simp
  · intro wS hS
    go_simp
    try rfl
  intro K hK
  go_simp
  refine hK _ ?_
  clear hK K
  apply wpOrd_get rfl
  · go_simp
  · intro wS hS
    go_simp
    try rfl
  intro K hK
  go_simp
  refine hK _ ?_
  clear hK K
  apply wpOrd_get rfl
  · go_simp
  · intro wS hS
    go_simp
    try rfl
  intro K hK
  go_simp
  refine hK _ ?_
  clear hK K
  refine wpOrd_loud rfl (fun K hK => ?_)
  go_wp2_with fail
  refine (num_call _ _).mono ?_
  rintro e w4 ⟨rfl, rfl⟩
  go_wp2_with fail
  refine hK _ _ (Below.drew (Below.refl _ _)) ?_
  clear hK K
  apply wpOrd_get rfl
  · go_simp
  · intro wS hS
    go_simp
    try rfl
  intro K hK
  go_simp
  refine hK _ ?_
  clear hK K
  apply wpOrd_get rfl
  · go_simp
  · intro wS hS
    go_simp
    try rfl
  intro K hK
  go_simp
  refine hK _ ?_
  clear hK K
  apply wpOrd_get rfl
  · go_simp
  · intro wS hS
    go_simp
    try rfl
  intro K hK
  go_simp
  refine hK _ ?_
  clear hK K
  apply wpOrd_get rfl
  · go_simp
  · intro wS hS
    have x0 := hS.cell x0; have x1 := hS.cell x1; have x2 := hS.cell x2; have x3 := hS.cell x3
    go_simp
    try rfl
  intro K hK
  go_simp
  refine hK _ ?_
  clear hK K
  apply wpOrd_get rfl
  · go_simp
  · intro wS hS
    have x0 := hS.cell x0; have x1 := hS.cell x1; have x2 := hS.cell x2; have x3 := hS.cell x3
    go_simp
    try rfl
  intro K hK
  go_simp
  refine hK _ ?_
  clear hK K
  refine wpOrd_loud rfl (fun K hK => ?_)
  go_wp2_with fail
  refine (xhash_any _ u _ (HU.out.sub (Below.sub B3.out.drew))).mono ?_
  rintro e w5 ⟨rfl, hb5⟩
  have S5 : Since w3 w5 := Since.next (w := w3.drew) (Below.drew (Below.refl _ _)) hb5
  have B5 := Lib.hid (B3.out.drew.trans (hb5.mono B3.out.drew.size)); clear hb5
  go_wp2_with fail
  refine hK _ _ S5 ?_
  clear hK K
  refine wpOrd_loud rfl (fun K hK => ?_)
  go_wp2_with fail
  refine (rhash_any _ u _ (HU.out.sub (Below.sub B5.out)) HC.out).mono ?_
  rintro e w6 ⟨rfl, hb6⟩
  have S6 : Since w3 w6 := Since.next S5 hb6
  have B6 := Lib.hid (B5.out.trans (hb6.mono B5.out.size)); clear hb6
  go_wp2_with fail
  refine hK _ _ S6 ?_
  clear hK K
  apply wpOrd_get rfl
  · go_simp
  · intro wS hS
    go_simp
    try rfl
  intro K hK
  go_simp
  refine hK _ ?_
  clear hK K
  apply wpOrd_get rfl
  · go_simp
  · intro wS hS
    go_simp
    try rfl
  intro K hK
  go_simp
  refine hK _ ?_
  clear hK K
  apply wpOrd_get rfl
  · go_simp
  · intro wS hS
    go_simp
    try rfl
  intro K hK
  go_simp
  refine hK _ ?_
  clear hK K
  refine wpOrd_loud rfl (fun K hK => ?_)
  go_wp2_with fail
  refine (awake_any _).mono ?_
  rintro e w7 ⟨rfl, hb7⟩
  have S7 : Since w3 w7 := Since.next S6 hb7
  have B7 := Lib.hid (B6.out.trans (hb7.mono B6.out.size)); clear hb7
  go_wp2_with fail
  refine hK _ _ S7 ?_
  clear hK K
  apply wpOrd_get rfl
  · go_simp
  · intro wS hS
    go_simp
    try rfl
  intro K hK
  go_simp
  refine hK _ ?_
  clear hK K
  apply wpOrd_get rfl
  · go_simp
  · intro wS hS
    go_simp
    try rfl
  intro K hK
  go_simp
  refine hK _ ?_
  clear hK K
  refine wpOrd_nilN ?_
  go_wp2_with fail
  exact bodyPost_ret (results_tmp rfl _ _ _) rfl ⟨rfl, B7.out⟩
end Go.Proofs.Ytghnaaahkbnhlaa
