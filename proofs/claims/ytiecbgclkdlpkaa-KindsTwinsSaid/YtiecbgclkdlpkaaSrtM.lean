/-
  The walk of symMergeCmpFunc: two ranges in order are merged in place. The conditions: the row is the call's own; it is not too long.
-/
import Derived.Test.YtiecbgclkdlpkaaSrtW
import Derived.Deep.Cut
import Derived.Deep.CutRange
import Derived.Deep.DeepCutAuto
namespace Go.Proofs.Ytiecbgclkdlpkaa
open Go.RowKit
set_option linter.unusedVariables false
set_option linter.unusedSimpArgs false
attribute [local irreducible] wpStill wpOrd wpT

def SymC (g N n c : Nat) (V : Cel) (a m b : Nat) : Prop := ∀ (w : World) (p : Nat → Nat), SortR w g N n V p → Two V.key p a m b →
  Calls Try.prog 77 #[.slice (some ⟨g, 0, none⟩) n c, .int .i64 a, .int .i64 m, .int .i64 b, .func (.func 60) #[] #[]] w (fun e w' => ∃ q, SrtP w g N n V q e w' ∧ Turn a b p q ∧ Sorted V.key q a b)

set_option maxRecDepth 100000 in
set_option maxHeartbeats 12800000 in
theorem sym_l (g N n c : Nat) (V : Cel) (hn : n ≤ 1000000) (hc : n ≤ c) (a m b : Nat) (ham : a < m) (hmb : m < b) (hbn : b ≤ n) (h1 : m = a + 1) : SymC g N n c V a m b := by
  intro w p H HT0
  have HH := Lib.hid H; have HT := Lib.hid HT0
  clear H HT0
  have em : (m : Int) - (a : Int) = 1 := by omega
  have HM := Lib.hid h1
  clear h1
  go_enter Try.func77, Try.ntmps77
  go_wp2_with fail
  go_loopw [10, 11] (fun si sj wr => ∃ i j : Nat, si = .int .i64 i ∧ sj = .int .i64 j ∧ FindL V.key p a b i j ∧ SortR wr g N n V p ∧ Chg (fun _ => False) w wr) (fun si sj _ => (intOf sj).toNat - (intOf si).toNat)
  case atStart => exact ⟨m, b, rfl, rfl, ⟨by have := HM.out; omega, by omega, Nat.le_refl _, fun y y1 y2 => by have := HM.out; omega, fun y y1 y2 => by omega⟩, HH.out, Chg.refl _ _⟩
  case round =>
    obtain ⟨i, j, rfl, rfl, hF, hS, hC⟩ := hrel
    have HF := Lib.hid hF; have HS := Lib.hid hS; have HC := Lib.hid hC
    have hb1 := hF.1; have hb2 := hF.2.1; have hb3 := hF.2.2.1
    clear hF hS hC
    by_cases hlt : i < j
    case pos =>
      have hlt' : (i : Int) < j := by omega
      obtain ⟨s, h_s⟩ : ∃ x, x = i + j := ⟨_, rfl⟩
      have e_s : (i : Int) + (j : Int) = (s : Int) := by omega
      have w_s : IntKind.i64.wrap (s : Int) = (s : Int) := by rw [IntKind.wrap_i64]; omega
      have wu_s : IntKind.u64.wrap (s : Int) = (s : Int) := by simp [IntKind.wrap, IntKind.signed, IntKind.bits]; omega
      obtain ⟨h, h_h⟩ : ∃ x, x = s / 2 := ⟨_, rfl⟩
      have e_h : (s : Int) / 2 = (h : Int) := by omega
      have w_h : IntKind.i64.wrap (h : Int) = (h : Int) := by rw [IntKind.wrap_i64]; omega
      have wu_h : IntKind.u64.wrap (h : Int) = (h : Int) := by simp [IntKind.wrap, IntKind.signed, IntKind.bits]; omega
      have hh1 : i ≤ h := by omega
      have hh2 : h < j := by omega
      have HXN := Lib.hid (show h < n by omega); have HYN := Lib.hid (show a < n by omega)
      have hxn : (h : Int) < n := by omega
      have hyn : (a : Int) < n := by omega
      obtain ⟨h1, h_h1⟩ : ∃ x, x = h + 1 := ⟨_, rfl⟩
      have e_h1 : (h : Int) + 1 = (h1 : Int) := by omega
      have w_h1 : IntKind.i64.wrap (h1 : Int) = (h1 : Int) := by rw [IntKind.wrap_i64]; omega
      have HV_s := Lib.hid h_s
      clear h_s
      have HV_h := Lib.hid h_h
      clear h_h
      have HV_h1 := Lib.hid h_h1
      clear h_h1
      obtain ⟨⟨f0, f1, f2, f3, f4, f5⟩, _⟩ := HS.out.cell HXN.out
      obtain ⟨⟨g0, g1, g2, g3, g4, g5⟩, _⟩ := HS.out.cell HYN.out
      go_wp2_with fail
      refine wp_region_otN (fun wS => Chg (fun _ => False) wr wS) (.get 0 (.get 1 (.get 2 (.get 3 (.get 4 (.get 5 (.get 6 (.get 7 (.get 8 (.one 9 (.get 10 .done))))))))))) (by kernel_rfl) (by kernel_rfl) (Chg.refl _ _).drew ?_
      apply wpT_get rfl
      · go_simp
      · intro wS hS
        go_simp
        try rfl
      intro K hK
      go_simp
      refine hK _ ?_
      clear hK K
      apply wpT_get rfl
      · go_simp
      · intro wS hS
        go_simp
        try rfl
      intro K hK
      go_simp
      refine hK _ ?_
      clear hK K
      apply wpT_get rfl
      · go_simp
      · intro wS hS
        go_simp
        try rfl
      intro K hK
      go_simp
      refine hK _ ?_
      clear hK K
      apply wpT_get rfl
      · go_simp
      · intro wS hS
        go_simp
        try rfl
      intro K hK
      go_simp
      refine hK _ ?_
      clear hK K
      apply wpT_get rfl
      · go_simp
      · intro wS hS
        have x0 := hS.cell f0 id
        have x1 := hS.cell f1 id
        have x2 := hS.cell f2 id
        have x3 := hS.cell f3 id
        have x4 := hS.cell f4 id
        have x5 := hS.cell f5 id
        go_simp
        try rfl
      intro K hK
      go_simp
      refine hK _ ?_
      clear hK K
      apply wpT_get rfl
      · go_simp
      · intro wS hS
        go_simp
        try rfl
      intro K hK
      go_simp
      refine hK _ ?_
      clear hK K
      apply wpT_get rfl
      · go_simp
      · intro wS hS
        go_simp
        try rfl
      intro K hK
      go_simp
      refine hK _ ?_
      clear hK K
      apply wpT_get rfl
      · go_simp
      · intro wS hS
        go_simp
        try rfl
      intro K hK
      go_simp
      refine hK _ ?_
      clear hK K
      apply wpT_get rfl
      · go_simp
      · intro wS hS
        have x0 := hS.cell g0 id
        have x1 := hS.cell g1 id
        have x2 := hS.cell g2 id
        have x3 := hS.cell g3 id
        have x4 := hS.cell g4 id
        have x5 := hS.cell g5 id
        go_simp
        try rfl
      intro K hK
      go_simp
      refine hK _ ?_
      clear hK K
      clear f0 f1 f2 f3 f4 f5 g0 g1 g2 g3 g4 g5
      refine wpT_one rfl (fun K hK => ?_)
      go_wp2_with fail
      refine (less_any wr.drew (V.key (p h)) (V.key (p a)) _ _ _ _ _ _ _ _ _ _).mono ?_
      rintro e w2 ⟨⟨v, rfl, hv⟩, hb⟩
      have HV := Lib.hid hv
      have HC3 := Lib.hid (show Chg (fun _ => False) wr w2 from (Chg.refl _ wr).drew.trans (below_none hb) (fun _ _ e => e))
      clear hb hv
      go_wp2_with fail
      refine hK _ _ HC3.out ?_
      clear hK K
      have HS3 := Lib.hid (HS.out.keepC HC3.out)
      cases z : lessB (V.key (p h)) (V.key (p a)) with
      | true =>
        have HZ := Lib.hid z
        have hv0 : v < 0 := by have := HV.out; rw [z] at this; simpa using this
        clear z
        apply wpT_get rfl
        · go_simp
        · intro wS hS
          go_simp
          try rfl
        intro K hK
        go_simp
        refine hK _ ?_
        clear hK K
        refine wpT_doneN ?_
        go_wp2_with fail
        go_roundw
        case rel => exact ⟨h + 1, j, by have := HV_h1.out; go_num, rfl, HF.out.yes (HM.out ▸ HT.out) hh1 hh2 HZ.out, HS3.out, HC.out.trans HC3.out (fun _ _ e => e)⟩
        case measure => simp [intOf]; omega
      | false =>
        have HZ := Lib.hid z
        have hv0 : ¬ v < 0 := by have := HV.out; rw [z] at this; simpa using this
        clear z
        apply wpT_get rfl
        · go_simp
        · intro wS hS
          go_simp
          try rfl
        intro K hK
        go_simp
        refine hK _ ?_
        clear hK K
        refine wpT_doneN ?_
        go_wp2_with fail
        go_roundw
        case rel => exact ⟨i, h, rfl, by go_num, HF.out.no (HM.out ▸ HT.out) hh1 hh2 HZ.out, HS3.out, HC.out.trans HC3.out (fun _ _ e => e)⟩
        case measure => simp [intOf]; omega
    obtain rfl : i = j := by omega
    have HF2 := HF
    obtain ⟨i1, h_i1⟩ : ∃ x, x = i - 1 := ⟨_, rfl⟩
    have e_i1 : (i : Int) - 1 = (i1 : Int) := by omega
    have w_i1 : IntKind.i64.wrap (i1 : Int) = (i1 : Int) := by rw [IntKind.wrap_i64]; omega
    have HV_i1 := Lib.hid h_i1
    clear h_i1
    obtain ⟨wo, rfl⟩ : ∃ wo, wo = wr := ⟨_, rfl⟩
    go_wp2_with fail
    go_loopw [13] (fun sk wr => ∃ k : Nat, a ≤ k ∧ k ≤ i1 ∧ sk = .int .i64 k ∧ SortR wr g N n V (rot p a (a + 1) (k + 1)) ∧ Chg (fun j => j = g) wo wr) (fun sk _ => i1 - (intOf sk).toNat)
    case atStart => exact ⟨a, Nat.le_refl _, by have := HV_i1.out; omega, rfl, HS.out.congr (rot_none p (by omega) (by omega) (.inr rfl)), Chg.refl _ _⟩
    case round =>
      obtain ⟨k, hk1, hk2, rfl, hS, hC⟩ := hrel
      have HS2 := Lib.hid hS; have HC2 := Lib.hid hC
      clear hS hC
      by_cases hlt : k < i1
      case neg =>
        have hlt' : ¬ (k : Int) < i1 := by omega
        have HQ := Lib.hid (HF.out.done (q := rot p a (a + 1) (k + 1)) (HM.out ▸ HT.out) (fun x => by rw [show k + 1 = i by have := HV_i1.out; omega]))
        have HTT := Lib.hid ((rot_turn p (show a ≤ a + 1 by omega) (show a + 1 ≤ k + 1 by omega)).wide (Nat.le_refl a) (show k + 1 ≤ b by have := HV_i1.out; omega))
        have HCC := Lib.hid ((HC.out.mono (S' := fun j => j = g) (fun _ _ e => e.elim)).trans HC2.out (fun _ _ e => e))
        go_wp2_with fail
        refine bodyPost_ret (results_none rfl _ _ _) rfl ?_
        exact ⟨_, ⟨rfl, HS2.out, HCC.out⟩, HTT.out, HQ.out⟩
      have hlt' : (k : Int) < i1 := by omega
      obtain ⟨k1, h_k1⟩ : ∃ x, x = k + 1 := ⟨_, rfl⟩
      have e_k1 : (k : Int) + 1 = (k1 : Int) := by omega
      have w_k1 : IntKind.i64.wrap (k1 : Int) = (k1 : Int) := by rw [IntKind.wrap_i64]; omega
      have HNX := Lib.hid (show ∀ z, swp (rot p a (a + 1) (k + 1)) k k1 z = rot p a (a + 1) (k + 1 + 1) z by rw [h_k1]; exact rot_up p hk1)
      have hik : i1 < n := by have := HV_i1.out; omega
      have hkn : (k : Int) < n := by omega
      have hk1n : (k1 : Int) < n := by omega
      have wk_ : IntKind.i64.wrap (k : Int) = (k : Int) := by rw [IntKind.wrap_i64]; omega
      have hx0 : k < n := by omega
      have hy0 : k1 < n := by omega
      have HV_k1 := Lib.hid h_k1
      clear h_k1
      go_wp2_with fail
      have HXN := Lib.hid (show k < n from hx0); have HYN := Lib.hid (show k1 < n from hy0)
      refine wp_region_otN (fun _ => True) (.get 0 (.get 1 (.get 2 (.get 3 (.get 4 (.get 5 (.get 6 (.get 7 (.get 8 (.get 10 (.get 11 (.get 12 (.two 9 (.one 13 (.get 14 (.one 15 (.get 16 (.one 17 .done))))) 13 (.one 9 (.get 14 (.one 15 (.get 16 (.one 17 .done)))))))))))))))))) (by kernel_rfl) (by kernel_rfl) trivial ?_
      apply wpT_get rfl
      · go_simp
      · intro wS hS
        go_simp
        try rfl
      intro K hK
      go_simp
      refine hK _ ?_
      clear hK K
      apply wpT_get rfl
      · go_simp
      · intro wS hS
        go_simp
        try rfl
      intro K hK
      go_simp
      refine hK _ ?_
      clear hK K
      apply wpT_get rfl
      · go_simp
      · intro wS hS
        go_simp
        try rfl
      intro K hK
      go_simp
      refine hK _ ?_
      clear hK K
      apply wpT_get rfl
      · go_simp
      · intro wS hS
        go_simp
        try rfl
      intro K hK
      go_simp
      refine hK _ ?_
      clear hK K
      apply wpT_get rfl
      · go_simp
      · intro wS hS
        go_simp
        try rfl
      intro K hK
      go_simp
      refine hK _ ?_
      clear hK K
      apply wpT_get rfl
      · go_simp
      · intro wS hS
        go_simp
        try rfl
      intro K hK
      go_simp
      refine hK _ ?_
      clear hK K
      apply wpT_get rfl
      · go_simp
      · intro wS hS
        go_simp
        try rfl
      intro K hK
      go_simp
      refine hK _ ?_
      clear hK K
      apply wpT_get rfl
      · go_simp
      · intro wS hS
        go_simp
        try rfl
      intro K hK
      go_simp
      refine hK _ ?_
      clear hK K
      apply wpT_get rfl
      · go_simp
      · intro wS hS
        go_simp
        try rfl
      intro K hK
      go_simp
      refine hK _ ?_
      clear hK K
      apply wpT_get rfl
      · go_simp
      · intro wS hS
        go_simp
        try rfl
      intro K hK
      go_simp
      refine hK _ ?_
      clear hK K
      apply wpT_get rfl
      · go_simp
      · intro wS hS
        go_simp
        try rfl
      intro K hK
      go_simp
      refine hK _ ?_
      clear hK K
      apply wpT_get rfl
      · go_simp
      · intro wS hS
        go_simp
        try rfl
      intro K hK
      go_simp
      refine hK _ ?_
      clear hK K
      refine wpT_two rfl rfl (fun K hK => ?_) (fun K hK => ?_)
      case refine_1 =>
        obtain ⟨⟨f0_, f1_, f2_, f3_, f4_, f5_⟩, _⟩ := HS2.out.cell HYN.out
        go_wp2_with fail
        clear f0_ f1_ f2_ f3_ f4_ f5_
        refine hK _ _ trivial ?_
        clear hK K
        refine wpT_one rfl (fun K hK => ?_)
        obtain ⟨⟨f0_, f1_, f2_, f3_, f4_, f5_⟩, _⟩ := HS2.out.cell HXN.out
        go_wp2_with fail
        clear f0_ f1_ f2_ f3_ f4_ f5_
        refine hK _ _ trivial ?_
        clear hK K
        apply wpT_get rfl
        · go_simp
        · intro wS hS
          go_simp
          try rfl
        intro K hK
        go_simp
        refine hK _ ?_
        clear hK K
        refine wpT_one rfl (fun K hK => ?_)
        obtain ⟨⟨f0_, f1_, f2_, f3_, f4_, f5_⟩, fz_⟩ := HS2.out.cell HXN.out
        have z0_ := fz_ (k * 6); have z1_ := fz_ (k * 6 + 1); have z2_ := fz_ (k * 6 + 2); have z3_ := fz_ (k * 6 + 3); have z4_ := fz_ (k * 6 + 4); have z5_ := fz_ (k * 6 + 5)
        have lt_ := HS2.out.lt
        go_wp2_with fail
        clear f0_ f1_ f2_ f3_ f4_ f5_ fz_ z0_ z1_ z2_ z3_ z4_ z5_ lt_
        refine hK _ _ trivial ?_
        clear hK K
        have hs1 := SortR.store (w := wr) HS2.out HXN.out ((rot p a (a + 1) (k + 1)) k1)
        obtain ⟨w1, hw1⟩ : ∃ z, z = ((((((wr.setCell ⟨g, k * 6, none⟩ (.string (V.key ((rot p a (a + 1) (k + 1)) k1)))).setCell ⟨g, k * 6 + 1, none⟩ (.int .i64 (V.kind ((rot p a (a + 1) (k + 1)) k1)))).setCell ⟨g, k * 6 + 2, none⟩ (.string (V.pkg ((rot p a (a + 1) (k + 1)) k1)))).setCell ⟨g, k * 6 + 3, none⟩ (.string (V.name ((rot p a (a + 1) (k + 1)) k1)))).setCell ⟨g, k * 6 + 4, none⟩ (.slice (V.a4 ((rot p a (a + 1) (k + 1)) k1)) (V.n4 ((rot p a (a + 1) (k + 1)) k1)) (V.d4 ((rot p a (a + 1) (k + 1)) k1)))).setCell ⟨g, k * 6 + 5, none⟩ (.slice (V.a5 ((rot p a (a + 1) (k + 1)) k1)) (V.n5 ((rot p a (a + 1) (k + 1)) k1)) (V.d5 ((rot p a (a + 1) (k + 1)) k1)))).drew := ⟨_, rfl⟩
        have hs1 : SortR w1 g N n V (fun z => if z = k then (rot p a (a + 1) (k + 1)) k1 else (rot p a (a + 1) (k + 1)) z) := by rw [hw1]; exact hs1.drew
        have hc1 : Chg (fun j => j = g) wr w1 := by rw [hw1]; exact (set6_chg wr g (k * 6) (.string (V.key ((rot p a (a + 1) (k + 1)) k1))) (.int .i64 (V.kind ((rot p a (a + 1) (k + 1)) k1))) (.string (V.pkg ((rot p a (a + 1) (k + 1)) k1))) (.string (V.name ((rot p a (a + 1) (k + 1)) k1))) (.slice (V.a4 ((rot p a (a + 1) (k + 1)) k1)) (V.n4 ((rot p a (a + 1) (k + 1)) k1)) (V.d4 ((rot p a (a + 1) (k + 1)) k1))) (.slice (V.a5 ((rot p a (a + 1) (k + 1)) k1)) (V.n5 ((rot p a (a + 1) (k + 1)) k1)) (V.d5 ((rot p a (a + 1) (k + 1)) k1)))).drew
        rw [← hw1]
        have HS1 := Lib.hid hs1; have HC1 := Lib.hid hc1
        clear hs1 hc1 hw1
        apply wpT_get rfl
        · go_simp
        · intro wS hS
          go_simp
          try rfl
        intro K hK
        go_simp
        refine hK _ ?_
        clear hK K
        refine wpT_one rfl (fun K hK => ?_)
        obtain ⟨⟨f0_, f1_, f2_, f3_, f4_, f5_⟩, fz_⟩ := HS1.out.cell HYN.out
        have z0_ := fz_ (k1 * 6); have z1_ := fz_ (k1 * 6 + 1); have z2_ := fz_ (k1 * 6 + 2); have z3_ := fz_ (k1 * 6 + 3); have z4_ := fz_ (k1 * 6 + 4); have z5_ := fz_ (k1 * 6 + 5)
        have lt_ := HS1.out.lt
        go_wp2_with fail
        clear f0_ f1_ f2_ f3_ f4_ f5_ fz_ z0_ z1_ z2_ z3_ z4_ z5_ lt_
        refine hK _ _ trivial ?_
        clear hK K
        have hs2 := HS1.out.store HYN.out ((rot p a (a + 1) (k + 1)) k)
        obtain ⟨w2, hw2⟩ : ∃ z, z = ((((((w1.setCell ⟨g, k1 * 6, none⟩ (.string (V.key ((rot p a (a + 1) (k + 1)) k)))).setCell ⟨g, k1 * 6 + 1, none⟩ (.int .i64 (V.kind ((rot p a (a + 1) (k + 1)) k)))).setCell ⟨g, k1 * 6 + 2, none⟩ (.string (V.pkg ((rot p a (a + 1) (k + 1)) k)))).setCell ⟨g, k1 * 6 + 3, none⟩ (.string (V.name ((rot p a (a + 1) (k + 1)) k)))).setCell ⟨g, k1 * 6 + 4, none⟩ (.slice (V.a4 ((rot p a (a + 1) (k + 1)) k)) (V.n4 ((rot p a (a + 1) (k + 1)) k)) (V.d4 ((rot p a (a + 1) (k + 1)) k)))).setCell ⟨g, k1 * 6 + 5, none⟩ (.slice (V.a5 ((rot p a (a + 1) (k + 1)) k)) (V.n5 ((rot p a (a + 1) (k + 1)) k)) (V.d5 ((rot p a (a + 1) (k + 1)) k)))) := ⟨_, rfl⟩
        have hs2 : SortR w2 g N n V (swp (rot p a (a + 1) (k + 1)) k k1) := by rw [hw2]; exact hs2.swapped
        have hc2 : Chg (fun j => j = g) wr w2 := by rw [hw2]; exact HC1.out.trans (set6_chg w1 g (k1 * 6) (.string (V.key ((rot p a (a + 1) (k + 1)) k))) (.int .i64 (V.kind ((rot p a (a + 1) (k + 1)) k))) (.string (V.pkg ((rot p a (a + 1) (k + 1)) k))) (.string (V.name ((rot p a (a + 1) (k + 1)) k))) (.slice (V.a4 ((rot p a (a + 1) (k + 1)) k)) (V.n4 ((rot p a (a + 1) (k + 1)) k)) (V.d4 ((rot p a (a + 1) (k + 1)) k))) (.slice (V.a5 ((rot p a (a + 1) (k + 1)) k)) (V.n5 ((rot p a (a + 1) (k + 1)) k)) (V.d5 ((rot p a (a + 1) (k + 1)) k)))) (fun _ _ e => e)
        rw [← hw2]
        have HS2_ := Lib.hid hs2; have HC2_ := Lib.hid hc2
        clear hs2 hc2 hw2 HS1 HC1
        refine wpT_doneN ?_
        go_wp2_with fail
        have HS2b := Lib.hid (HS2_.out.congr (fun z => (HNX.out z).symm)); have HC2b := HC2_
        go_roundw
        case rel => exact ⟨k + 1, by omega, by omega, by have := HV_k1.out; go_num, HS2b.out, HC2.out.trans HC2b.out (fun _ _ e => e)⟩
        case measure => simp [intOf]; omega
      case refine_2 =>
        obtain ⟨⟨f0_, f1_, f2_, f3_, f4_, f5_⟩, _⟩ := HS2.out.cell HXN.out
        go_wp2_with fail
        clear f0_ f1_ f2_ f3_ f4_ f5_
        refine hK _ _ trivial ?_
        clear hK K
        refine wpT_one rfl (fun K hK => ?_)
        obtain ⟨⟨f0_, f1_, f2_, f3_, f4_, f5_⟩, _⟩ := HS2.out.cell HYN.out
        go_wp2_with fail
        clear f0_ f1_ f2_ f3_ f4_ f5_
        refine hK _ _ trivial ?_
        clear hK K
        apply wpT_get rfl
        · go_simp
        · intro wS hS
          go_simp
          try rfl
        intro K hK
        go_simp
        refine hK _ ?_
        clear hK K
        refine wpT_one rfl (fun K hK => ?_)
        obtain ⟨⟨f0_, f1_, f2_, f3_, f4_, f5_⟩, fz_⟩ := HS2.out.cell HXN.out
        have z0_ := fz_ (k * 6); have z1_ := fz_ (k * 6 + 1); have z2_ := fz_ (k * 6 + 2); have z3_ := fz_ (k * 6 + 3); have z4_ := fz_ (k * 6 + 4); have z5_ := fz_ (k * 6 + 5)
        have lt_ := HS2.out.lt
        go_wp2_with fail
        clear f0_ f1_ f2_ f3_ f4_ f5_ fz_ z0_ z1_ z2_ z3_ z4_ z5_ lt_
        refine hK _ _ trivial ?_
        clear hK K
        have hs1 := SortR.store (w := wr) HS2.out HXN.out ((rot p a (a + 1) (k + 1)) k1)
        obtain ⟨w1, hw1⟩ : ∃ z, z = ((((((wr.setCell ⟨g, k * 6, none⟩ (.string (V.key ((rot p a (a + 1) (k + 1)) k1)))).setCell ⟨g, k * 6 + 1, none⟩ (.int .i64 (V.kind ((rot p a (a + 1) (k + 1)) k1)))).setCell ⟨g, k * 6 + 2, none⟩ (.string (V.pkg ((rot p a (a + 1) (k + 1)) k1)))).setCell ⟨g, k * 6 + 3, none⟩ (.string (V.name ((rot p a (a + 1) (k + 1)) k1)))).setCell ⟨g, k * 6 + 4, none⟩ (.slice (V.a4 ((rot p a (a + 1) (k + 1)) k1)) (V.n4 ((rot p a (a + 1) (k + 1)) k1)) (V.d4 ((rot p a (a + 1) (k + 1)) k1)))).setCell ⟨g, k * 6 + 5, none⟩ (.slice (V.a5 ((rot p a (a + 1) (k + 1)) k1)) (V.n5 ((rot p a (a + 1) (k + 1)) k1)) (V.d5 ((rot p a (a + 1) (k + 1)) k1)))).drew := ⟨_, rfl⟩
        have hs1 : SortR w1 g N n V (fun z => if z = k then (rot p a (a + 1) (k + 1)) k1 else (rot p a (a + 1) (k + 1)) z) := by rw [hw1]; exact hs1.drew
        have hc1 : Chg (fun j => j = g) wr w1 := by rw [hw1]; exact (set6_chg wr g (k * 6) (.string (V.key ((rot p a (a + 1) (k + 1)) k1))) (.int .i64 (V.kind ((rot p a (a + 1) (k + 1)) k1))) (.string (V.pkg ((rot p a (a + 1) (k + 1)) k1))) (.string (V.name ((rot p a (a + 1) (k + 1)) k1))) (.slice (V.a4 ((rot p a (a + 1) (k + 1)) k1)) (V.n4 ((rot p a (a + 1) (k + 1)) k1)) (V.d4 ((rot p a (a + 1) (k + 1)) k1))) (.slice (V.a5 ((rot p a (a + 1) (k + 1)) k1)) (V.n5 ((rot p a (a + 1) (k + 1)) k1)) (V.d5 ((rot p a (a + 1) (k + 1)) k1)))).drew
        rw [← hw1]
        have HS1 := Lib.hid hs1; have HC1 := Lib.hid hc1
        clear hs1 hc1 hw1
        apply wpT_get rfl
        · go_simp
        · intro wS hS
          go_simp
          try rfl
        intro K hK
        go_simp
        refine hK _ ?_
        clear hK K
        refine wpT_one rfl (fun K hK => ?_)
        obtain ⟨⟨f0_, f1_, f2_, f3_, f4_, f5_⟩, fz_⟩ := HS1.out.cell HYN.out
        have z0_ := fz_ (k1 * 6); have z1_ := fz_ (k1 * 6 + 1); have z2_ := fz_ (k1 * 6 + 2); have z3_ := fz_ (k1 * 6 + 3); have z4_ := fz_ (k1 * 6 + 4); have z5_ := fz_ (k1 * 6 + 5)
        have lt_ := HS1.out.lt
        go_wp2_with fail
        clear f0_ f1_ f2_ f3_ f4_ f5_ fz_ z0_ z1_ z2_ z3_ z4_ z5_ lt_
        refine hK _ _ trivial ?_
        clear hK K
        have hs2 := HS1.out.store HYN.out ((rot p a (a + 1) (k + 1)) k)
        obtain ⟨w2, hw2⟩ : ∃ z, z = ((((((w1.setCell ⟨g, k1 * 6, none⟩ (.string (V.key ((rot p a (a + 1) (k + 1)) k)))).setCell ⟨g, k1 * 6 + 1, none⟩ (.int .i64 (V.kind ((rot p a (a + 1) (k + 1)) k)))).setCell ⟨g, k1 * 6 + 2, none⟩ (.string (V.pkg ((rot p a (a + 1) (k + 1)) k)))).setCell ⟨g, k1 * 6 + 3, none⟩ (.string (V.name ((rot p a (a + 1) (k + 1)) k)))).setCell ⟨g, k1 * 6 + 4, none⟩ (.slice (V.a4 ((rot p a (a + 1) (k + 1)) k)) (V.n4 ((rot p a (a + 1) (k + 1)) k)) (V.d4 ((rot p a (a + 1) (k + 1)) k)))).setCell ⟨g, k1 * 6 + 5, none⟩ (.slice (V.a5 ((rot p a (a + 1) (k + 1)) k)) (V.n5 ((rot p a (a + 1) (k + 1)) k)) (V.d5 ((rot p a (a + 1) (k + 1)) k)))) := ⟨_, rfl⟩
        have hs2 : SortR w2 g N n V (swp (rot p a (a + 1) (k + 1)) k k1) := by rw [hw2]; exact hs2.swapped
        have hc2 : Chg (fun j => j = g) wr w2 := by rw [hw2]; exact HC1.out.trans (set6_chg w1 g (k1 * 6) (.string (V.key ((rot p a (a + 1) (k + 1)) k))) (.int .i64 (V.kind ((rot p a (a + 1) (k + 1)) k))) (.string (V.pkg ((rot p a (a + 1) (k + 1)) k))) (.string (V.name ((rot p a (a + 1) (k + 1)) k))) (.slice (V.a4 ((rot p a (a + 1) (k + 1)) k)) (V.n4 ((rot p a (a + 1) (k + 1)) k)) (V.d4 ((rot p a (a + 1) (k + 1)) k))) (.slice (V.a5 ((rot p a (a + 1) (k + 1)) k)) (V.n5 ((rot p a (a + 1) (k + 1)) k)) (V.d5 ((rot p a (a + 1) (k + 1)) k)))) (fun _ _ e => e)
        rw [← hw2]
        have HS2_ := Lib.hid hs2; have HC2_ := Lib.hid hc2
        clear hs2 hc2 hw2 HS1 HC1
        refine wpT_doneN ?_
        go_wp2_with fail
        have HS2b := Lib.hid (HS2_.out.congr (fun z => (HNX.out z).symm)); have HC2b := HC2_
        go_roundw
        case rel => exact ⟨k + 1, by omega, by omega, by have := HV_k1.out; go_num, HS2b.out, HC2.out.trans HC2b.out (fun _ _ e => e)⟩
        case measure => simp [intOf]; omega
set_option maxRecDepth 100000 in
set_option maxHeartbeats 12800000 in
theorem sym_r (g N n c : Nat) (V : Cel) (hn : n ≤ 1000000) (hc : n ≤ c) (a m b : Nat) (ham : a < m) (hmb : m < b) (hbn : b ≤ n) (h0 : m ≠ a + 1) (h1 : b = m + 1) : SymC g N n c V a m b := by
  intro w p H HT0
  have HH := Lib.hid H; have HT := Lib.hid HT0
  clear H HT0
  have em0 : ¬ (m : Int) - (a : Int) = 1 := by omega
  obtain ⟨d, h_d⟩ : ∃ x, x = m - a := ⟨_, rfl⟩
  have e_d : (m : Int) - (a : Int) = (d : Int) := by omega
  have w_d : IntKind.i64.wrap (d : Int) = (d : Int) := by rw [IntKind.wrap_i64]; omega
  have nd : ((d : Int) == 1) = false := by simp; omega
  have em : (b : Int) - (m : Int) = 1 := by omega
  have HM := Lib.hid h1
  clear h1 h0 em0
  have HV_d := Lib.hid h_d
  clear h_d
  go_enter Try.func77, Try.ntmps77
  go_wp2_with fail
  go_loopw [14, 15] (fun si sj wr => ∃ i j : Nat, si = .int .i64 i ∧ sj = .int .i64 j ∧ FindR V.key p a m i j ∧ SortR wr g N n V p ∧ Chg (fun _ => False) w wr) (fun si sj _ => (intOf sj).toNat - (intOf si).toNat)
  case atStart => exact ⟨a, m, rfl, rfl, ⟨Nat.le_refl _, by omega, Nat.le_refl _, fun y y1 y2 => by omega, fun y y1 y2 => by omega⟩, HH.out, Chg.refl _ _⟩
  case round =>
    obtain ⟨i, j, rfl, rfl, hF, hS, hC⟩ := hrel
    have HF := Lib.hid hF; have HS := Lib.hid hS; have HC := Lib.hid hC
    have hb1 := hF.1; have hb2 := hF.2.1; have hb3 := hF.2.2.1
    clear hF hS hC
    by_cases hlt : i < j
    case pos =>
      have hlt' : (i : Int) < j := by omega
      obtain ⟨s, h_s⟩ : ∃ x, x = i + j := ⟨_, rfl⟩
      have e_s : (i : Int) + (j : Int) = (s : Int) := by omega
      have w_s : IntKind.i64.wrap (s : Int) = (s : Int) := by rw [IntKind.wrap_i64]; omega
      have wu_s : IntKind.u64.wrap (s : Int) = (s : Int) := by simp [IntKind.wrap, IntKind.signed, IntKind.bits]; omega
      obtain ⟨h, h_h⟩ : ∃ x, x = s / 2 := ⟨_, rfl⟩
      have e_h : (s : Int) / 2 = (h : Int) := by omega
      have w_h : IntKind.i64.wrap (h : Int) = (h : Int) := by rw [IntKind.wrap_i64]; omega
      have wu_h : IntKind.u64.wrap (h : Int) = (h : Int) := by simp [IntKind.wrap, IntKind.signed, IntKind.bits]; omega
      have hh1 : i ≤ h := by omega
      have hh2 : h < j := by omega
      have HXN := Lib.hid (show m < n by omega); have HYN := Lib.hid (show h < n by omega)
      have hxn : (m : Int) < n := by omega
      have hyn : (h : Int) < n := by omega
      obtain ⟨h1, h_h1⟩ : ∃ x, x = h + 1 := ⟨_, rfl⟩
      have e_h1 : (h : Int) + 1 = (h1 : Int) := by omega
      have w_h1 : IntKind.i64.wrap (h1 : Int) = (h1 : Int) := by rw [IntKind.wrap_i64]; omega
      have HV_s := Lib.hid h_s
      clear h_s
      have HV_h := Lib.hid h_h
      clear h_h
      have HV_h1 := Lib.hid h_h1
      clear h_h1
      obtain ⟨⟨f0, f1, f2, f3, f4, f5⟩, _⟩ := HS.out.cell HXN.out
      obtain ⟨⟨g0, g1, g2, g3, g4, g5⟩, _⟩ := HS.out.cell HYN.out
      go_wp2_with fail
      refine wp_region_otN (fun wS => Chg (fun _ => False) wr wS) (.get 0 (.get 1 (.get 2 (.get 3 (.get 4 (.get 5 (.get 6 (.get 7 (.get 8 (.one 9 (.get 10 (.get 11 .done)))))))))))) (by kernel_rfl) (by kernel_rfl) (Chg.refl _ _).drew ?_
      apply wpT_get rfl
      · go_simp
      · intro wS hS
        go_simp
        try rfl
      intro K hK
      go_simp
      refine hK _ ?_
      clear hK K
      apply wpT_get rfl
      · go_simp
      · intro wS hS
        go_simp
        try rfl
      intro K hK
      go_simp
      refine hK _ ?_
      clear hK K
      apply wpT_get rfl
      · go_simp
      · intro wS hS
        go_simp
        try rfl
      intro K hK
      go_simp
      refine hK _ ?_
      clear hK K
      apply wpT_get rfl
      · go_simp
      · intro wS hS
        go_simp
        try rfl
      intro K hK
      go_simp
      refine hK _ ?_
      clear hK K
      apply wpT_get rfl
      · go_simp
      · intro wS hS
        have x0 := hS.cell f0 id
        have x1 := hS.cell f1 id
        have x2 := hS.cell f2 id
        have x3 := hS.cell f3 id
        have x4 := hS.cell f4 id
        have x5 := hS.cell f5 id
        go_simp
        try rfl
      intro K hK
      go_simp
      refine hK _ ?_
      clear hK K
      apply wpT_get rfl
      · go_simp
      · intro wS hS
        go_simp
        try rfl
      intro K hK
      go_simp
      refine hK _ ?_
      clear hK K
      apply wpT_get rfl
      · go_simp
      · intro wS hS
        go_simp
        try rfl
      intro K hK
      go_simp
      refine hK _ ?_
      clear hK K
      apply wpT_get rfl
      · go_simp
      · intro wS hS
        go_simp
        try rfl
      intro K hK
      go_simp
      refine hK _ ?_
      clear hK K
      apply wpT_get rfl
      · go_simp
      · intro wS hS
        have x0 := hS.cell g0 id
        have x1 := hS.cell g1 id
        have x2 := hS.cell g2 id
        have x3 := hS.cell g3 id
        have x4 := hS.cell g4 id
        have x5 := hS.cell g5 id
        go_simp
        try rfl
      intro K hK
      go_simp
      refine hK _ ?_
      clear hK K
      clear f0 f1 f2 f3 f4 f5 g0 g1 g2 g3 g4 g5
      refine wpT_one rfl (fun K hK => ?_)
      go_wp2_with fail
      refine (less_any wr.drew (V.key (p m)) (V.key (p h)) _ _ _ _ _ _ _ _ _ _).mono ?_
      rintro e w2 ⟨⟨v, rfl, hv⟩, hb⟩
      have HV := Lib.hid hv
      have HC3 := Lib.hid (show Chg (fun _ => False) wr w2 from (Chg.refl _ wr).drew.trans (below_none hb) (fun _ _ e => e))
      clear hb hv
      go_wp2_with fail
      refine hK _ _ HC3.out ?_
      clear hK K
      have HS3 := Lib.hid (HS.out.keepC HC3.out)
      cases z : lessB (V.key (p m)) (V.key (p h)) with
      | true =>
        have HZ := Lib.hid z
        have hv0 : v < 0 := by have := HV.out; rw [z] at this; simpa using this
        clear z
        apply wpT_get rfl
        · go_simp
        · intro wS hS
          go_simp
          try rfl
        intro K hK
        go_simp
        refine hK _ ?_
        clear hK K
        apply wpT_get rfl
        · go_simp
        · intro wS hS
          go_simp
          try rfl
        intro K hK
        go_simp
        refine hK _ ?_
        clear hK K
        refine wpT_doneN ?_
        go_wp2_with fail
        go_roundw
        case rel => exact ⟨i, h, rfl, by go_num, HF.out.no (HM.out ▸ HT.out) hh1 hh2 HZ.out, HS3.out, HC.out.trans HC3.out (fun _ _ e => e)⟩
        case measure => simp [intOf]; omega
      | false =>
        have HZ := Lib.hid z
        have hv0 : ¬ v < 0 := by have := HV.out; rw [z] at this; simpa using this
        clear z
        apply wpT_get rfl
        · go_simp
        · intro wS hS
          go_simp
          try rfl
        intro K hK
        go_simp
        refine hK _ ?_
        clear hK K
        apply wpT_get rfl
        · go_simp
        · intro wS hS
          go_simp
          try rfl
        intro K hK
        go_simp
        refine hK _ ?_
        clear hK K
        refine wpT_doneN ?_
        go_wp2_with fail
        go_roundw
        case rel => exact ⟨h + 1, j, by have := HV_h1.out; go_num, rfl, HF.out.yes (HM.out ▸ HT.out) hh1 hh2 HZ.out, HS3.out, HC.out.trans HC3.out (fun _ _ e => e)⟩
        case measure => simp [intOf]; omega
    obtain rfl : i = j := by omega
    obtain ⟨wo, rfl⟩ : ∃ wo, wo = wr := ⟨_, rfl⟩
    go_wp2_with fail
    go_loopw [17] (fun sk wr => ∃ k : Nat, i ≤ k ∧ k ≤ m ∧ sk = .int .i64 k ∧ SortR wr g N n V (rot p k m (m + 1)) ∧ Chg (fun j => j = g) wo wr) (fun sk _ => (intOf sk).toNat)
    case atStart => exact ⟨m, by omega, Nat.le_refl _, rfl, HS.out.congr (rot_none p (by omega) (by omega) (.inl rfl)), Chg.refl _ _⟩
    case round =>
      obtain ⟨k0, hk1, hk2, rfl, hS, hC⟩ := hrel
      have HS2 := Lib.hid hS; have HC2 := Lib.hid hC
      clear hS hC
      by_cases hlt : i < k0
      case neg =>
        have hlt' : ¬ (i : Int) < k0 := by omega
        have HQ := Lib.hid (HF.out.done (q := rot p k0 m (m + 1)) (HM.out ▸ HT.out) (fun x => by rw [show k0 = i by omega]))
        have HTT := Lib.hid ((rot_turn p hk2 (show m ≤ m + 1 by omega)).wide (show a ≤ k0 by omega) (Nat.le_refl (m + 1)))
        have HCC := Lib.hid ((HC.out.mono (S' := fun j => j = g) (fun _ _ e => e.elim)).trans HC2.out (fun _ _ e => e))
        go_wp2_with fail
        refine bodyPost_ret (results_none rfl _ _ _) rfl ?_
        refine ⟨_, ⟨rfl, HS2.out, HCC.out⟩, ?_, ?_⟩
        · rw [HM.out]; exact HTT.out
        · rw [HM.out]; exact HQ.out
      obtain ⟨k, rfl⟩ : ∃ k, k0 = k + 1 := ⟨k0 - 1, by omega⟩
      obtain ⟨k1, h_k1⟩ : ∃ x, x = k + 1 := ⟨_, rfl⟩
      have ej : ((k + 1 : Nat) : Int) = (k1 : Int) := by omega
      have e_k : (k1 : Int) - 1 = (k : Int) := by omega
      have w_k : IntKind.i64.wrap (k : Int) = (k : Int) := by rw [IntKind.wrap_i64]; omega
      have w_k1 : IntKind.i64.wrap (k1 : Int) = (k1 : Int) := by rw [IntKind.wrap_i64]; omega
      have hlt' : (i : Int) < k1 := by omega
      have HNX := Lib.hid (show ∀ z, swp (rot p (k + 1) m (m + 1)) k1 k z = rot p k m (m + 1) z by rw [h_k1]; exact rot_down p (by omega))
      have hkn : (k : Int) < n := by omega
      have hk1n : (k1 : Int) < n := by omega
      have hx0 : k1 < n := by omega
      have hy0 : k < n := by omega
      have HK1 := Lib.hid h_k1
      rw [ej]
      clear h_k1 ej
      go_wp2_with fail
      have HXN := Lib.hid (show k1 < n from hx0); have HYN := Lib.hid (show k < n from hy0)
      refine wp_region_otN (fun _ => True) (.get 0 (.get 1 (.get 2 (.get 3 (.get 4 (.get 5 (.get 6 (.get 7 (.get 8 (.get 10 (.get 11 (.get 12 (.two 9 (.one 13 (.get 14 (.one 15 (.get 16 (.one 17 .done))))) 13 (.one 9 (.get 14 (.one 15 (.get 16 (.one 17 .done)))))))))))))))))) (by kernel_rfl) (by kernel_rfl) trivial ?_
      apply wpT_get rfl
      · go_simp
      · intro wS hS
        go_simp
        try rfl
      intro K hK
      go_simp
      refine hK _ ?_
      clear hK K
      apply wpT_get rfl
      · go_simp
      · intro wS hS
        go_simp
        try rfl
      intro K hK
      go_simp
      refine hK _ ?_
      clear hK K
      apply wpT_get rfl
      · go_simp
      · intro wS hS
        go_simp
        try rfl
      intro K hK
      go_simp
      refine hK _ ?_
      clear hK K
      apply wpT_get rfl
      · go_simp
      · intro wS hS
        go_simp
        try rfl
      intro K hK
      go_simp
      refine hK _ ?_
      clear hK K
      apply wpT_get rfl
      · go_simp
      · intro wS hS
        go_simp
        try rfl
      intro K hK
      go_simp
      refine hK _ ?_
      clear hK K
      apply wpT_get rfl
      · go_simp
      · intro wS hS
        go_simp
        try rfl
      intro K hK
      go_simp
      refine hK _ ?_
      clear hK K
      apply wpT_get rfl
      · go_simp
      · intro wS hS
        go_simp
        try rfl
      intro K hK
      go_simp
      refine hK _ ?_
      clear hK K
      apply wpT_get rfl
      · go_simp
      · intro wS hS
        go_simp
        try rfl
      intro K hK
      go_simp
      refine hK _ ?_
      clear hK K
      apply wpT_get rfl
      · go_simp
      · intro wS hS
        go_simp
        try rfl
      intro K hK
      go_simp
      refine hK _ ?_
      clear hK K
      apply wpT_get rfl
      · go_simp
      · intro wS hS
        go_simp
        try rfl
      intro K hK
      go_simp
      refine hK _ ?_
      clear hK K
      apply wpT_get rfl
      · go_simp
      · intro wS hS
        go_simp
        try rfl
      intro K hK
      go_simp
      refine hK _ ?_
      clear hK K
      apply wpT_get rfl
      · go_simp
      · intro wS hS
        go_simp
        try rfl
      intro K hK
      go_simp
      refine hK _ ?_
      clear hK K
      refine wpT_two rfl rfl (fun K hK => ?_) (fun K hK => ?_)
      case refine_1 =>
        obtain ⟨⟨f0_, f1_, f2_, f3_, f4_, f5_⟩, _⟩ := HS2.out.cell HYN.out
        go_wp2_with fail
        clear f0_ f1_ f2_ f3_ f4_ f5_
        refine hK _ _ trivial ?_
        clear hK K
        refine wpT_one rfl (fun K hK => ?_)
        obtain ⟨⟨f0_, f1_, f2_, f3_, f4_, f5_⟩, _⟩ := HS2.out.cell HXN.out
        go_wp2_with fail
        clear f0_ f1_ f2_ f3_ f4_ f5_
        refine hK _ _ trivial ?_
        clear hK K
        apply wpT_get rfl
        · go_simp
        · intro wS hS
          go_simp
          try rfl
        intro K hK
        go_simp
        refine hK _ ?_
        clear hK K
        refine wpT_one rfl (fun K hK => ?_)
        obtain ⟨⟨f0_, f1_, f2_, f3_, f4_, f5_⟩, fz_⟩ := HS2.out.cell HXN.out
        have z0_ := fz_ (k1 * 6); have z1_ := fz_ (k1 * 6 + 1); have z2_ := fz_ (k1 * 6 + 2); have z3_ := fz_ (k1 * 6 + 3); have z4_ := fz_ (k1 * 6 + 4); have z5_ := fz_ (k1 * 6 + 5)
        have lt_ := HS2.out.lt
        go_wp2_with fail
        clear f0_ f1_ f2_ f3_ f4_ f5_ fz_ z0_ z1_ z2_ z3_ z4_ z5_ lt_
        refine hK _ _ trivial ?_
        clear hK K
        have hs1 := SortR.store (w := wr) HS2.out HXN.out ((rot p (k + 1) m (m + 1)) k)
        obtain ⟨w1, hw1⟩ : ∃ z, z = ((((((wr.setCell ⟨g, k1 * 6, none⟩ (.string (V.key ((rot p (k + 1) m (m + 1)) k)))).setCell ⟨g, k1 * 6 + 1, none⟩ (.int .i64 (V.kind ((rot p (k + 1) m (m + 1)) k)))).setCell ⟨g, k1 * 6 + 2, none⟩ (.string (V.pkg ((rot p (k + 1) m (m + 1)) k)))).setCell ⟨g, k1 * 6 + 3, none⟩ (.string (V.name ((rot p (k + 1) m (m + 1)) k)))).setCell ⟨g, k1 * 6 + 4, none⟩ (.slice (V.a4 ((rot p (k + 1) m (m + 1)) k)) (V.n4 ((rot p (k + 1) m (m + 1)) k)) (V.d4 ((rot p (k + 1) m (m + 1)) k)))).setCell ⟨g, k1 * 6 + 5, none⟩ (.slice (V.a5 ((rot p (k + 1) m (m + 1)) k)) (V.n5 ((rot p (k + 1) m (m + 1)) k)) (V.d5 ((rot p (k + 1) m (m + 1)) k)))).drew := ⟨_, rfl⟩
        have hs1 : SortR w1 g N n V (fun z => if z = k1 then (rot p (k + 1) m (m + 1)) k else (rot p (k + 1) m (m + 1)) z) := by rw [hw1]; exact hs1.drew
        have hc1 : Chg (fun j => j = g) wr w1 := by rw [hw1]; exact (set6_chg wr g (k1 * 6) (.string (V.key ((rot p (k + 1) m (m + 1)) k))) (.int .i64 (V.kind ((rot p (k + 1) m (m + 1)) k))) (.string (V.pkg ((rot p (k + 1) m (m + 1)) k))) (.string (V.name ((rot p (k + 1) m (m + 1)) k))) (.slice (V.a4 ((rot p (k + 1) m (m + 1)) k)) (V.n4 ((rot p (k + 1) m (m + 1)) k)) (V.d4 ((rot p (k + 1) m (m + 1)) k))) (.slice (V.a5 ((rot p (k + 1) m (m + 1)) k)) (V.n5 ((rot p (k + 1) m (m + 1)) k)) (V.d5 ((rot p (k + 1) m (m + 1)) k)))).drew
        rw [← hw1]
        have HS1 := Lib.hid hs1; have HC1 := Lib.hid hc1
        clear hs1 hc1 hw1
        apply wpT_get rfl
        · go_simp
        · intro wS hS
          go_simp
          try rfl
        intro K hK
        go_simp
        refine hK _ ?_
        clear hK K
        refine wpT_one rfl (fun K hK => ?_)
        obtain ⟨⟨f0_, f1_, f2_, f3_, f4_, f5_⟩, fz_⟩ := HS1.out.cell HYN.out
        have z0_ := fz_ (k * 6); have z1_ := fz_ (k * 6 + 1); have z2_ := fz_ (k * 6 + 2); have z3_ := fz_ (k * 6 + 3); have z4_ := fz_ (k * 6 + 4); have z5_ := fz_ (k * 6 + 5)
        have lt_ := HS1.out.lt
        go_wp2_with fail
        clear f0_ f1_ f2_ f3_ f4_ f5_ fz_ z0_ z1_ z2_ z3_ z4_ z5_ lt_
        refine hK _ _ trivial ?_
        clear hK K
        have hs2 := HS1.out.store HYN.out ((rot p (k + 1) m (m + 1)) k1)
        obtain ⟨w2, hw2⟩ : ∃ z, z = ((((((w1.setCell ⟨g, k * 6, none⟩ (.string (V.key ((rot p (k + 1) m (m + 1)) k1)))).setCell ⟨g, k * 6 + 1, none⟩ (.int .i64 (V.kind ((rot p (k + 1) m (m + 1)) k1)))).setCell ⟨g, k * 6 + 2, none⟩ (.string (V.pkg ((rot p (k + 1) m (m + 1)) k1)))).setCell ⟨g, k * 6 + 3, none⟩ (.string (V.name ((rot p (k + 1) m (m + 1)) k1)))).setCell ⟨g, k * 6 + 4, none⟩ (.slice (V.a4 ((rot p (k + 1) m (m + 1)) k1)) (V.n4 ((rot p (k + 1) m (m + 1)) k1)) (V.d4 ((rot p (k + 1) m (m + 1)) k1)))).setCell ⟨g, k * 6 + 5, none⟩ (.slice (V.a5 ((rot p (k + 1) m (m + 1)) k1)) (V.n5 ((rot p (k + 1) m (m + 1)) k1)) (V.d5 ((rot p (k + 1) m (m + 1)) k1)))) := ⟨_, rfl⟩
        have hs2 : SortR w2 g N n V (swp (rot p (k + 1) m (m + 1)) k1 k) := by rw [hw2]; exact hs2.swapped
        have hc2 : Chg (fun j => j = g) wr w2 := by rw [hw2]; exact HC1.out.trans (set6_chg w1 g (k * 6) (.string (V.key ((rot p (k + 1) m (m + 1)) k1))) (.int .i64 (V.kind ((rot p (k + 1) m (m + 1)) k1))) (.string (V.pkg ((rot p (k + 1) m (m + 1)) k1))) (.string (V.name ((rot p (k + 1) m (m + 1)) k1))) (.slice (V.a4 ((rot p (k + 1) m (m + 1)) k1)) (V.n4 ((rot p (k + 1) m (m + 1)) k1)) (V.d4 ((rot p (k + 1) m (m + 1)) k1))) (.slice (V.a5 ((rot p (k + 1) m (m + 1)) k1)) (V.n5 ((rot p (k + 1) m (m + 1)) k1)) (V.d5 ((rot p (k + 1) m (m + 1)) k1)))) (fun _ _ e => e)
        rw [← hw2]
        have HS2_ := Lib.hid hs2; have HC2_ := Lib.hid hc2
        clear hs2 hc2 hw2 HS1 HC1
        refine wpT_doneN ?_
        go_wp2_with fail
        have HS2b := Lib.hid (HS2_.out.congr (fun z => (HNX.out z).symm)); have HC2b := HC2_
        go_roundw
        case rel => exact ⟨k, by omega, by omega, by go_num, HS2b.out, HC2.out.trans HC2b.out (fun _ _ e => e)⟩
        case measure => simp [intOf]; have := HK1.out; omega
      case refine_2 =>
        obtain ⟨⟨f0_, f1_, f2_, f3_, f4_, f5_⟩, _⟩ := HS2.out.cell HXN.out
        go_wp2_with fail
        clear f0_ f1_ f2_ f3_ f4_ f5_
        refine hK _ _ trivial ?_
        clear hK K
        refine wpT_one rfl (fun K hK => ?_)
        obtain ⟨⟨f0_, f1_, f2_, f3_, f4_, f5_⟩, _⟩ := HS2.out.cell HYN.out
        go_wp2_with fail
        clear f0_ f1_ f2_ f3_ f4_ f5_
        refine hK _ _ trivial ?_
        clear hK K
        apply wpT_get rfl
        · go_simp
        · intro wS hS
          go_simp
          try rfl
        intro K hK
        go_simp
        refine hK _ ?_
        clear hK K
        refine wpT_one rfl (fun K hK => ?_)
        obtain ⟨⟨f0_, f1_, f2_, f3_, f4_, f5_⟩, fz_⟩ := HS2.out.cell HXN.out
        have z0_ := fz_ (k1 * 6); have z1_ := fz_ (k1 * 6 + 1); have z2_ := fz_ (k1 * 6 + 2); have z3_ := fz_ (k1 * 6 + 3); have z4_ := fz_ (k1 * 6 + 4); have z5_ := fz_ (k1 * 6 + 5)
        have lt_ := HS2.out.lt
        go_wp2_with fail
        clear f0_ f1_ f2_ f3_ f4_ f5_ fz_ z0_ z1_ z2_ z3_ z4_ z5_ lt_
        refine hK _ _ trivial ?_
        clear hK K
        have hs1 := SortR.store (w := wr) HS2.out HXN.out ((rot p (k + 1) m (m + 1)) k)
        obtain ⟨w1, hw1⟩ : ∃ z, z = ((((((wr.setCell ⟨g, k1 * 6, none⟩ (.string (V.key ((rot p (k + 1) m (m + 1)) k)))).setCell ⟨g, k1 * 6 + 1, none⟩ (.int .i64 (V.kind ((rot p (k + 1) m (m + 1)) k)))).setCell ⟨g, k1 * 6 + 2, none⟩ (.string (V.pkg ((rot p (k + 1) m (m + 1)) k)))).setCell ⟨g, k1 * 6 + 3, none⟩ (.string (V.name ((rot p (k + 1) m (m + 1)) k)))).setCell ⟨g, k1 * 6 + 4, none⟩ (.slice (V.a4 ((rot p (k + 1) m (m + 1)) k)) (V.n4 ((rot p (k + 1) m (m + 1)) k)) (V.d4 ((rot p (k + 1) m (m + 1)) k)))).setCell ⟨g, k1 * 6 + 5, none⟩ (.slice (V.a5 ((rot p (k + 1) m (m + 1)) k)) (V.n5 ((rot p (k + 1) m (m + 1)) k)) (V.d5 ((rot p (k + 1) m (m + 1)) k)))).drew := ⟨_, rfl⟩
        have hs1 : SortR w1 g N n V (fun z => if z = k1 then (rot p (k + 1) m (m + 1)) k else (rot p (k + 1) m (m + 1)) z) := by rw [hw1]; exact hs1.drew
        have hc1 : Chg (fun j => j = g) wr w1 := by rw [hw1]; exact (set6_chg wr g (k1 * 6) (.string (V.key ((rot p (k + 1) m (m + 1)) k))) (.int .i64 (V.kind ((rot p (k + 1) m (m + 1)) k))) (.string (V.pkg ((rot p (k + 1) m (m + 1)) k))) (.string (V.name ((rot p (k + 1) m (m + 1)) k))) (.slice (V.a4 ((rot p (k + 1) m (m + 1)) k)) (V.n4 ((rot p (k + 1) m (m + 1)) k)) (V.d4 ((rot p (k + 1) m (m + 1)) k))) (.slice (V.a5 ((rot p (k + 1) m (m + 1)) k)) (V.n5 ((rot p (k + 1) m (m + 1)) k)) (V.d5 ((rot p (k + 1) m (m + 1)) k)))).drew
        rw [← hw1]
        have HS1 := Lib.hid hs1; have HC1 := Lib.hid hc1
        clear hs1 hc1 hw1
        apply wpT_get rfl
        · go_simp
        · intro wS hS
          go_simp
          try rfl
        intro K hK
        go_simp
        refine hK _ ?_
        clear hK K
        refine wpT_one rfl (fun K hK => ?_)
        obtain ⟨⟨f0_, f1_, f2_, f3_, f4_, f5_⟩, fz_⟩ := HS1.out.cell HYN.out
        have z0_ := fz_ (k * 6); have z1_ := fz_ (k * 6 + 1); have z2_ := fz_ (k * 6 + 2); have z3_ := fz_ (k * 6 + 3); have z4_ := fz_ (k * 6 + 4); have z5_ := fz_ (k * 6 + 5)
        have lt_ := HS1.out.lt
        go_wp2_with fail
        clear f0_ f1_ f2_ f3_ f4_ f5_ fz_ z0_ z1_ z2_ z3_ z4_ z5_ lt_
        refine hK _ _ trivial ?_
        clear hK K
        have hs2 := HS1.out.store HYN.out ((rot p (k + 1) m (m + 1)) k1)
        obtain ⟨w2, hw2⟩ : ∃ z, z = ((((((w1.setCell ⟨g, k * 6, none⟩ (.string (V.key ((rot p (k + 1) m (m + 1)) k1)))).setCell ⟨g, k * 6 + 1, none⟩ (.int .i64 (V.kind ((rot p (k + 1) m (m + 1)) k1)))).setCell ⟨g, k * 6 + 2, none⟩ (.string (V.pkg ((rot p (k + 1) m (m + 1)) k1)))).setCell ⟨g, k * 6 + 3, none⟩ (.string (V.name ((rot p (k + 1) m (m + 1)) k1)))).setCell ⟨g, k * 6 + 4, none⟩ (.slice (V.a4 ((rot p (k + 1) m (m + 1)) k1)) (V.n4 ((rot p (k + 1) m (m + 1)) k1)) (V.d4 ((rot p (k + 1) m (m + 1)) k1)))).setCell ⟨g, k * 6 + 5, none⟩ (.slice (V.a5 ((rot p (k + 1) m (m + 1)) k1)) (V.n5 ((rot p (k + 1) m (m + 1)) k1)) (V.d5 ((rot p (k + 1) m (m + 1)) k1)))) := ⟨_, rfl⟩
        have hs2 : SortR w2 g N n V (swp (rot p (k + 1) m (m + 1)) k1 k) := by rw [hw2]; exact hs2.swapped
        have hc2 : Chg (fun j => j = g) wr w2 := by rw [hw2]; exact HC1.out.trans (set6_chg w1 g (k * 6) (.string (V.key ((rot p (k + 1) m (m + 1)) k1))) (.int .i64 (V.kind ((rot p (k + 1) m (m + 1)) k1))) (.string (V.pkg ((rot p (k + 1) m (m + 1)) k1))) (.string (V.name ((rot p (k + 1) m (m + 1)) k1))) (.slice (V.a4 ((rot p (k + 1) m (m + 1)) k1)) (V.n4 ((rot p (k + 1) m (m + 1)) k1)) (V.d4 ((rot p (k + 1) m (m + 1)) k1))) (.slice (V.a5 ((rot p (k + 1) m (m + 1)) k1)) (V.n5 ((rot p (k + 1) m (m + 1)) k1)) (V.d5 ((rot p (k + 1) m (m + 1)) k1)))) (fun _ _ e => e)
        rw [← hw2]
        have HS2_ := Lib.hid hs2; have HC2_ := Lib.hid hc2
        clear hs2 hc2 hw2 HS1 HC1
        refine wpT_doneN ?_
        go_wp2_with fail
        have HS2b := Lib.hid (HS2_.out.congr (fun z => (HNX.out z).symm)); have HC2b := HC2_
        go_roundw
        case rel => exact ⟨k, by omega, by omega, by go_num, HS2b.out, HC2.out.trans HC2b.out (fun _ _ e => e)⟩
        case measure => simp [intOf]; have := HK1.out; omega
end Go.Proofs.Ytiecbgclkdlpkaa
