/-
  The walk of symMergeCmpFunc, where both sides hold more than one. The conditions: the row is the call's own; it is not too long.
-/
import Derived.Test.YtiecbgclkdlpkaaSrtM
namespace Go.Proofs.Ytiecbgclkdlpkaa
open Go.RowKit
set_option linter.unusedVariables false
set_option linter.unusedSimpArgs false
attribute [local irreducible] wpStill wpOrd wpT

theorem half_facts {a m b mid s0 r0 n2 : Nat} (ham : a < m) (hmb : m < b) (hm : mid = (a + b) / 2) (hn : n2 = mid + m) (h : mid < m ∧ s0 = n2 - b ∧ r0 = mid ∨ m ≤ mid ∧ s0 = a ∧ r0 = m) :
    a ≤ s0 ∧ r0 ≤ m ∧ m ≤ n2 - r0 ∧ n2 - s0 ≤ b ∧ r0 ≤ n2 ∧ s0 ≤ r0 ∧ r0 ≤ mid := by
  rcases h with ⟨h1, h2, h3⟩ | ⟨h1, h2, h3⟩
  all_goals omega
theorem mid_found {V : Cel} {p q : Nat → Nat} {a m b mid s0 r0 n2 s e : Nat} (H : Two V.key p a m b) (ham : a < m) (hmb : m < b) (hm : mid = (a + b) / 2) (hn : n2 = mid + m) (h : mid < m ∧ s0 = n2 - b ∧ r0 = mid ∨ m ≤ mid ∧ s0 = a ∧ r0 = m)
    (k : FindM V.key p n2 s0 r0 s s) (he : e = n2 - s) (hq : ∀ x, q x = rot p s m e x) : Mid V.key q a s mid e b ∧ a ≤ s ∧ s ≤ m ∧ m ≤ e ∧ e ≤ b ∧ s ≤ mid ∧ mid ≤ e := by
  obtain ⟨f1, f2, f3, f4, f5, f6, f7⟩ := half_facts ham hmb hm hn h
  obtain ⟨k1, k2, k3, k4, k5⟩ := k
  have g : a ≤ s ∧ s ≤ m ∧ m ≤ e ∧ e ≤ b ∧ s ≤ mid ∧ mid ≤ e := by omega
  refine ⟨mid_of H g.1 g.2.1 g.2.2.1 g.2.2.2.1 g.2.2.2.2.1 g.2.2.2.2.2 (by omega) (fun h1 h2 => ?_) (fun h1 h2 => ?_) hq, g⟩
  · rw [he]; exact k4 (by omega)
  · have := k5 (by omega)
    rw [show e - 1 = n2 - 1 - s by omega]; exact this

set_option maxRecDepth 100000 in
set_option maxHeartbeats 12800000 in
theorem sym_m (g N n c : Nat) (V : Cel) (hn : n ≤ 1000000) (hc : n ≤ c) (a m b : Nat) (ham : a < m) (hmb : m < b) (hbn : b ≤ n) (h0 : m ≠ a + 1) (h1 : b ≠ m + 1) (ih : ∀ a1 m1 b1, a1 < m1 → m1 < b1 → b1 ≤ n → b1 - a1 < b - a → SymC g N n c V a1 m1 b1) : SymC g N n c V a m b := by
  intro w p H HT0
  have HH := Lib.hid H; have HT := Lib.hid HT0
  clear H HT0
  have IH := Lib.hid ih
  clear ih
  obtain ⟨d, h_d⟩ : ∃ x, x = m - a := ⟨_, rfl⟩
  have e_d : (m : Int) - (a : Int) = (d : Int) := by omega
  have w_d : IntKind.i64.wrap (d : Int) = (d : Int) := by rw [IntKind.wrap_i64]; omega
  obtain ⟨d2, h_d2⟩ : ∃ x, x = b - m := ⟨_, rfl⟩
  have e_d2 : (b : Int) - (m : Int) = (d2 : Int) := by omega
  have w_d2 : IntKind.i64.wrap (d2 : Int) = (d2 : Int) := by rw [IntKind.wrap_i64]; omega
  have nd : ((d : Int) == 1) = false := by simp; omega
  have nd2 : ((d2 : Int) == 1) = false := by simp; omega
  obtain ⟨s, h_s⟩ : ∃ x, x = a + b := ⟨_, rfl⟩
  have e_s : (a : Int) + (b : Int) = (s : Int) := by omega
  have w_s : IntKind.i64.wrap (s : Int) = (s : Int) := by rw [IntKind.wrap_i64]; omega
  have wu_s : IntKind.u64.wrap (s : Int) = (s : Int) := by simp [IntKind.wrap, IntKind.signed, IntKind.bits]; omega
  obtain ⟨mid, h_mid⟩ : ∃ x, x = s / 2 := ⟨_, rfl⟩
  have e_mid : (s : Int) / 2 = (mid : Int) := by omega
  have w_mid : IntKind.i64.wrap (mid : Int) = (mid : Int) := by rw [IntKind.wrap_i64]; omega
  have wu_mid : IntKind.u64.wrap (mid : Int) = (mid : Int) := by simp [IntKind.wrap, IntKind.signed, IntKind.bits]; omega
  obtain ⟨n2, h_n2⟩ : ∃ x, x = mid + m := ⟨_, rfl⟩
  have e_n2 : (mid : Int) + (m : Int) = (n2 : Int) := by omega
  have w_n2 : IntKind.i64.wrap (n2 : Int) = (n2 : Int) := by rw [IntKind.wrap_i64]; omega
  obtain ⟨s0, r0, hsr⟩ : ∃ s0 r0, mid < m ∧ s0 = n2 - b ∧ r0 = mid ∨ m ≤ mid ∧ s0 = a ∧ r0 = m := by
    by_cases q : mid < m
    · exact ⟨n2 - b, mid, .inl ⟨q, rfl, rfl⟩⟩
    · exact ⟨a, m, .inr ⟨by omega, rfl, rfl⟩⟩
  have hmid : mid = (a + b) / 2 := by omega
  have HMID := Lib.hid hmid; have HN2 := Lib.hid h_n2; have HSR := Lib.hid hsr
  have HG := Lib.hid (half_facts ham hmb hmid h_n2 hsr)
  have hn2 : n2 ≤ 2000000 := by omega
  have hml : a + 2 ≤ mid ∧ mid + 2 ≤ b := by omega
  have HML := Lib.hid hml
  obtain ⟨p0, h_p0⟩ : ∃ x, x = n2 - 1 := ⟨_, rfl⟩
  have e_p0 : (n2 : Int) - 1 = (p0 : Int) := by omega
  have w_p0 : IntKind.i64.wrap (p0 : Int) = (p0 : Int) := by rw [IntKind.wrap_i64]; omega
  have esb : mid < m → (n2 : Int) - (b : Int) = (s0 : Int) := fun q => by omega
  have es0 : s0 ≤ n := by have := HG.out; omega
  have ws0 : IntKind.i64.wrap (s0 : Int) = (s0 : Int) := by rw [IntKind.wrap_i64]; omega
  have ESB := Lib.hid esb
  clear hmid hsr esb hml h0 h1
  have HV_d := Lib.hid h_d
  clear h_d
  have HV_d2 := Lib.hid h_d2
  clear h_d2
  have HV_s := Lib.hid h_s
  clear h_s
  have HV_mid := Lib.hid h_mid
  clear h_mid
  have HV_n2 := Lib.hid h_n2
  clear h_n2
  have HV_p0 := Lib.hid h_p0
  clear h_p0
  go_enter Try.func77, Try.ntmps77
  go_upto_if 140 with (fail)
  go_cut [20, 21] from 138 to 146 (fun s20 s21 wx => s20 = .int .i64 s0 ∧ s21 = .int .i64 r0 ∧ wx = w)
  case first =>
    by_cases hc : mid < m
    · have hc' : (mid : Int) < (m : Int) := by omega
      have e_s := ESB.out hc
      have HR0 := Lib.hid (show r0 = mid by have := HSR.out; omega)
      clear hc
      go_wp2_with fail
      go_meet
      case rel => exact ⟨rfl, by rw [HR0.out], rfl⟩
    · have hc' : ¬ (mid : Int) < (m : Int) := by omega
      have HR0 := Lib.hid (show s0 = a ∧ r0 = m by have := HSR.out; omega)
      clear hc
      go_wp2_with fail
      go_meet
      case rel => exact ⟨by rw [HR0.out.1], by rw [HR0.out.2], rfl⟩
  case rest =>
    obtain ⟨rfl, rfl, rfl⟩ := hcut
    go_wp2_with fail
    obtain ⟨wo, rfl⟩ : ∃ wo, wo = wc := ⟨_, rfl⟩
    go_loopw [20, 21] (fun ss sr wr => ∃ s r : Nat, ss = .int .i64 s ∧ sr = .int .i64 r ∧ FindM V.key p n2 s0 r0 s r ∧ SortR wr g N n V p ∧ Chg (fun _ => False) wo wr) (fun ss sr _ => (intOf sr).toNat - (intOf ss).toNat)
    case atStart => exact ⟨s0, r0, rfl, rfl, ⟨Nat.le_refl _, HG.out.2.2.2.2.2.1, Nat.le_refl _, fun q => absurd q (Nat.lt_irrefl _), fun q => absurd q (Nat.lt_irrefl _)⟩, HH.out, Chg.refl _ _⟩
    case round =>
    obtain ⟨i, j, rfl, rfl, hF, hS, hC⟩ := hrel
    have HF := Lib.hid hF; have HS := Lib.hid hS; have HC := Lib.hid hC
    have hb1 := hF.1; have hb2 := hF.2.1; have hb3 := hF.2.2.1
    clear hF hS hC
    by_cases hlt : i < j
    case pos =>
      have hlt' : (i : Int) < j := by omega
      have hij : i ≤ n ∧ j ≤ n := by have := HG.out; omega
      obtain ⟨t, h_t⟩ : ∃ x, x = i + j := ⟨_, rfl⟩
      have e_t : (i : Int) + (j : Int) = (t : Int) := by omega
      have w_t : IntKind.i64.wrap (t : Int) = (t : Int) := by rw [IntKind.wrap_i64]; omega
      have wu_t : IntKind.u64.wrap (t : Int) = (t : Int) := by simp [IntKind.wrap, IntKind.signed, IntKind.bits]; omega
      obtain ⟨h, h_h⟩ : ∃ x, x = t / 2 := ⟨_, rfl⟩
      have e_h : (t : Int) / 2 = (h : Int) := by omega
      have w_h : IntKind.i64.wrap (h : Int) = (h : Int) := by rw [IntKind.wrap_i64]; omega
      have wu_h : IntKind.u64.wrap (h : Int) = (h : Int) := by simp [IntKind.wrap, IntKind.signed, IntKind.bits]; omega
      have hh1 : i ≤ h := by omega
      have hh2 : h < j := by omega
      obtain ⟨y, h_y⟩ : ∃ x, x = p0 - h := ⟨_, rfl⟩
      have hyb : y < n ∧ h < p0 ∧ y = n2 - 1 - h := by have := HG.out; have := HV_p0.out; omega
      have e_y : (p0 : Int) - (h : Int) = (y : Int) := by omega
      have w_y : IntKind.i64.wrap (y : Int) = (y : Int) := by rw [IntKind.wrap_i64]; omega
      have HXN := Lib.hid (show y < n from hyb.1); have HYN := Lib.hid (show h < n by omega)
      have hxn : (y : Int) < n := by omega
      have hyn : (h : Int) < n := by omega
      have HYE := Lib.hid hyb.2.2
      clear hyb
      obtain ⟨h1, h_h1⟩ : ∃ x, x = h + 1 := ⟨_, rfl⟩
      have e_h1 : (h : Int) + 1 = (h1 : Int) := by omega
      have w_h1 : IntKind.i64.wrap (h1 : Int) = (h1 : Int) := by rw [IntKind.wrap_i64]; omega
      have HV_t := Lib.hid h_t
      clear h_t
      have HV_h := Lib.hid h_h
      clear h_h
      have HV_h1 := Lib.hid h_h1
      clear h_h1
      have HV_y := Lib.hid h_y
      clear h_y
      obtain ⟨⟨f0, f1, f2, f3, f4, f5⟩, _⟩ := HS.out.cell HXN.out
      obtain ⟨⟨g0, g1, g2, g3, g4, g5⟩, _⟩ := HS.out.cell HYN.out
      go_wp2_with fail
      refine wp_region_otN (fun wS => Chg (fun _ => False) wr wS) (.get 0 (.get 1 (.get 2 (.get 3 (.get 4 (.get 5 (.get 6 (.get 7 (.get 8 (.get 9 (.get 10 (.one 11 (.get 12 (.get 13 .done)))))))))))))) (by kernel_rfl) (by kernel_rfl) (Chg.refl _ _).drew ?_
      apply wpT_get rfl
      · go_simp
      · intro wS hS
        go_simp
        try rfl
      intro K hK
      go_simp
      refine hK _ ?_
      clear hK K
      apply wpT_get rfl
      · go_simp
      · intro wS hS
        go_simp
        try rfl
      intro K hK
      go_simp
      refine hK _ ?_
      clear hK K
      apply wpT_get rfl
      · go_simp
      · intro wS hS
        go_simp
        try rfl
      intro K hK
      go_simp
      refine hK _ ?_
      clear hK K
      apply wpT_get rfl
      · go_simp
      · intro wS hS
        go_simp
        try rfl
      intro K hK
      go_simp
      refine hK _ ?_
      clear hK K
      apply wpT_get rfl
      · go_simp
      · intro wS hS
        go_simp
        try rfl
      intro K hK
      go_simp
      refine hK _ ?_
      clear hK K
      apply wpT_get rfl
      · go_simp
      · intro wS hS
        go_simp
        try rfl
      intro K hK
      go_simp
      refine hK _ ?_
      clear hK K
      apply wpT_get rfl
      · go_simp
      · intro wS hS
        have x0 := hS.cell f0 id
        have x1 := hS.cell f1 id
        have x2 := hS.cell f2 id
        have x3 := hS.cell f3 id
        have x4 := hS.cell f4 id
        have x5 := hS.cell f5 id
        go_simp
        try rfl
      intro K hK
      go_simp
      refine hK _ ?_
      clear hK K
      apply wpT_get rfl
      · go_simp
      · intro wS hS
        go_simp
        try rfl
      intro K hK
      go_simp
      refine hK _ ?_
      clear hK K
      apply wpT_get rfl
      · go_simp
      · intro wS hS
        go_simp
        try rfl
      intro K hK
      go_simp
      refine hK _ ?_
      clear hK K
      apply wpT_get rfl
      · go_simp
      · intro wS hS
        go_simp
        try rfl
      intro K hK
      go_simp
      refine hK _ ?_
      clear hK K
      apply wpT_get rfl
      · go_simp
      · intro wS hS
        have x0 := hS.cell g0 id
        have x1 := hS.cell g1 id
        have x2 := hS.cell g2 id
        have x3 := hS.cell g3 id
        have x4 := hS.cell g4 id
        have x5 := hS.cell g5 id
        go_simp
        try rfl
      intro K hK
      go_simp
      refine hK _ ?_
      clear hK K
      clear f0 f1 f2 f3 f4 f5 g0 g1 g2 g3 g4 g5
      refine wpT_one rfl (fun K hK => ?_)
      go_wp2_with fail
      refine (less_any wr.drew (V.key (p y)) (V.key (p h)) _ _ _ _ _ _ _ _ _ _).mono ?_
      rintro e w2 ⟨⟨v, rfl, hv⟩, hb⟩
      have HV := Lib.hid hv
      have HC3 := Lib.hid (show Chg (fun _ => False) wr w2 from (Chg.refl _ wr).drew.trans (below_none hb) (fun _ _ e => e))
      clear hb hv
      go_wp2_with fail
      refine hK _ _ HC3.out ?_
      clear hK K
      have HS3 := Lib.hid (HS.out.keepC HC3.out)
      cases z : lessB (V.key (p y)) (V.key (p h)) with
      | true =>
        have HZ := Lib.hid z
        have hv0 : v < 0 := by have := HV.out; rw [z] at this; simpa using this
        clear z
        apply wpT_get rfl
        · go_simp
        · intro wS hS
          go_simp
          try rfl
        intro K hK
        go_simp
        refine hK _ ?_
        clear hK K
        apply wpT_get rfl
        · go_simp
        · intro wS hS
          go_simp
          try rfl
        intro K hK
        go_simp
        refine hK _ ?_
        clear hK K
        refine wpT_doneN ?_
        go_wp2_with fail
        go_roundw
        case rel => exact ⟨i, h, rfl, by go_num, HF.out.no HT.out HG.out.1 HG.out.2.1 HG.out.2.2.1 HG.out.2.2.2.1 HG.out.2.2.2.2.1 hh1 hh2 (HYE.out ▸ HZ.out), HS3.out, HC.out.trans HC3.out (fun _ _ e => e)⟩
        case measure => simp [intOf]; omega
      | false =>
        have HZ := Lib.hid z
        have hv0 : ¬ v < 0 := by have := HV.out; rw [z] at this; simpa using this
        clear z
        apply wpT_get rfl
        · go_simp
        · intro wS hS
          go_simp
          try rfl
        intro K hK
        go_simp
        refine hK _ ?_
        clear hK K
        apply wpT_get rfl
        · go_simp
        · intro wS hS
          go_simp
          try rfl
        intro K hK
        go_simp
        refine hK _ ?_
        clear hK K
        refine wpT_doneN ?_
        go_wp2_with fail
        go_roundw
        case rel => exact ⟨h + 1, j, by have := HV_h1.out; go_num, rfl, HF.out.yes HT.out HG.out.1 HG.out.2.1 HG.out.2.2.1 HG.out.2.2.2.1 HG.out.2.2.2.2.1 hh1 hh2 (HYE.out ▸ HZ.out), HS3.out, HC.out.trans HC3.out (fun _ _ e => e)⟩
        case measure => simp [intOf]; omega
    obtain rfl : i = j := by omega
    have hlt' : ¬ (i : Int) < (i : Int) := by omega
    obtain ⟨e, h_e⟩ : ∃ x, x = n2 - i := ⟨_, rfl⟩
    have HMF := Lib.hid (mid_found (q := rot p i m e) HT.out ham hmb HMID.out HN2.out HSR.out HF.out h_e (fun _ => rfl))
    have e_e : (n2 : Int) - (i : Int) = (e : Int) := by have := HG.out; omega
    have w_e : IntKind.i64.wrap (e : Int) = (e : Int) := by have := HMF.out.2; rw [IntKind.wrap_i64]; omega
    have HB := Lib.hid HMF.out.2
    have HMQ := Lib.hid HMF.out.1
    have HV_e := Lib.hid h_e
    have HTQ := Lib.hid ((rot_turn p HB.out.2.1 HB.out.2.2.1).wide HB.out.1 HB.out.2.2.2.1)
    have HNO := Lib.hid (fun q : i = m ∨ m = e => rot_none p HB.out.2.1 HB.out.2.2.1 q)
    have hin : i ≤ n ∧ e ≤ n := by have := HB.out; omega
    clear h_e hb1 hb2 hb3 hlt HMF
    obtain ⟨q1, hq1⟩ : ∃ q, q = rot p i m e := ⟨_, rfl⟩
    rw [← hq1] at HMQ HTQ HNO
    have HQ1 := Lib.hid hq1
    clear hq1
    go_upto_region 39 with (fail)
    go_cut [185] from 178 to 185 (fun s wx => s = .bool (decide (i < m) && decide (m < e)) ∧ wx = wr)
    case first =>
      by_cases hA : i < m
      · have hA' : (i : Int) < (m : Int) := by omega
        by_cases hB : m < e
        · have hB' : (m : Int) < (e : Int) := by omega
          have HX := Lib.hid (show (decide (i < m) && decide (m < e)) = true by rw [decide_eq_true hA, decide_eq_true hB]; rfl)
          clear hA hB
          go_wp2_with fail
          go_meet
          case rel => exact ⟨by rw [HX.out], rfl⟩
        · have hB' : ¬ (m : Int) < (e : Int) := by omega
          have HX := Lib.hid (show (decide (i < m) && decide (m < e)) = false by rw [decide_eq_true hA, decide_eq_false hB]; rfl)
          clear hA hB
          go_wp2_with fail
          go_meet
          case rel => exact ⟨by rw [HX.out], rfl⟩
      · have hA' : ¬ (i : Int) < (m : Int) := by omega
        have HX := Lib.hid (show (decide (i < m) && decide (m < e)) = false by rw [decide_eq_false hA]; rfl)
        clear hA
        go_wp2_with fail
        go_meet
        case rel => exact ⟨by rw [HX.out], rfl⟩
    case rest =>
      obtain ⟨rfl, rfl⟩ := hcut
      obtain ⟨B, hB⟩ : ∃ B, B = (decide (i < m) && decide (m < e)) := ⟨_, rfl⟩
      rw [← hB]
      have HBB := Lib.hid hB
      clear hB
      go_upto_if 185 with (fail)
      go_cut [] from 178 to 191 (fun wx => SortR wx g N n V q1 ∧ Chg (fun j => j = g) wo wx)
      case first =>
        by_cases hR : i < m ∧ m < e
        · obtain rfl : B = true := by rw [HBB.out, decide_eq_true hR.1, decide_eq_true hR.2]; rfl
          have HR := Lib.hid hR
          have HBN := Lib.hid (show e ≤ n by omega)
          clear hR
          go_wp2_with fail
          refine (rot_any wc g N n c V p hn hc HS.out i m e _ HR.out.1 HR.out.2 HBN.out).mono ?_
          rintro e_ w2 ⟨rfl, hs2, hc2⟩
          have HS2 := Lib.hid hs2; have HC2 := Lib.hid ((HC.out.mono (S' := fun j => j = g) (fun _ _ e => e.elim)).trans hc2 (fun _ _ e => e))
          clear hs2 hc2
          go_wp2_with fail
          go_meet
          case rel => exact ⟨by rw [HQ1.out]; exact HS2.out, HC2.out⟩
        · obtain rfl : B = false := by
            rw [HBB.out]
            cases h1 : decide (i < m) with
            | false => rfl
            | true => cases h2 : decide (m < e) with
              | false => rfl
              | true => exact absurd ⟨of_decide_eq_true h1, of_decide_eq_true h2⟩ hR
          have HS2 := Lib.hid (HS.out.congr (HNO.out (by have := HB.out; omega)))
          have HC2 := Lib.hid (HC.out.mono (S' := fun j => j = g) (fun _ _ e => e.elim))
          clear hR
          go_wp2_with fail
          go_meet
          case rel => exact ⟨HS2.out, HC2.out⟩
      case rest =>
        obtain ⟨hs1, hc1⟩ := hcut
        have HS1 := Lib.hid hs1; have HC1 := Lib.hid hc1
        clear hs1 hc1 HS HC HBB
        obtain ⟨wv, rfl⟩ : ∃ x, x = wc := ⟨_, rfl⟩
        go_upto_region 41 with (fail)
        go_cut [199] from 192 to 199 (fun s wx => s = .bool (decide (a < i) && decide (i < mid)) ∧ wx = wv)
        case first =>
          by_cases hA : a < i
          · have hA' : (a : Int) < (i : Int) := by omega
            by_cases hB : i < mid
            · have hB' : (i : Int) < (mid : Int) := by omega
              have HX := Lib.hid (show (decide (a < i) && decide (i < mid)) = true by rw [decide_eq_true hA, decide_eq_true hB]; rfl)
              clear hA hB
              go_wp2_with fail
              go_meet
              case rel => exact ⟨by rw [HX.out], rfl⟩
            · have hB' : ¬ (i : Int) < (mid : Int) := by omega
              have HX := Lib.hid (show (decide (a < i) && decide (i < mid)) = false by rw [decide_eq_true hA, decide_eq_false hB]; rfl)
              clear hA hB
              go_wp2_with fail
              go_meet
              case rel => exact ⟨by rw [HX.out], rfl⟩
          · have hA' : ¬ (a : Int) < (i : Int) := by omega
            have HX := Lib.hid (show (decide (a < i) && decide (i < mid)) = false by rw [decide_eq_false hA]; rfl)
            clear hA
            go_wp2_with fail
            go_meet
            case rel => exact ⟨by rw [HX.out], rfl⟩
        case rest =>
          obtain ⟨rfl, rfl⟩ := hcut
          obtain ⟨B, hB⟩ : ∃ B, B = (decide (a < i) && decide (i < mid)) := ⟨_, rfl⟩
          rw [← hB]
          have HBB := Lib.hid hB
          clear hB
          obtain ⟨wv, rfl⟩ : ∃ x, x = wc := ⟨_, rfl⟩
          go_upto_if 199 with (fail)
          go_cut [] from 192 to 205 (fun wx => ∃ q2, SortR wx g N n V q2 ∧ Chg (fun j => j = g) wo wx ∧ Turn a mid q1 q2 ∧ Sorted V.key q2 a mid)
          case first =>
            by_cases hR : a < i ∧ i < mid
            · obtain rfl : B = true := by rw [HBB.out, decide_eq_true hR.1, decide_eq_true hR.2]; rfl
              have HIH := Lib.hid (IH.out a i mid hR.1 hR.2 (by have := HML.out; omega) (by have := HML.out; omega) wv q1 HS1.out HMQ.out.l)
              clear hR
              go_wp2_with fail
              refine HIH.out.mono ?_
              rintro e_ w2 ⟨q2, ⟨rfl, hs2, hc2⟩, ht2, ho2⟩
              have HS2 := Lib.hid hs2; have HC2 := Lib.hid (HC1.out.trans hc2 (fun _ _ e => e)); have HT2 := Lib.hid ht2; have HO2 := Lib.hid ho2
              clear hs2 hc2 ht2 ho2
              go_wp2_with fail
              go_meet
              case rel => exact ⟨q2, HS2.out, HC2.out, HT2.out, HO2.out⟩
            · obtain rfl : B = false := by
                rw [HBB.out]
                cases h1 : decide (a < i) with
                | false => rfl
                | true => cases h2 : decide (i < mid) with
                  | false => rfl
                  | true => exact absurd ⟨of_decide_eq_true h1, of_decide_eq_true h2⟩ hR
              have HO2 := Lib.hid (show Sorted V.key q1 a mid by
                have hb := HB.out
                by_cases hai : a < i
                · have : i = mid := by omega
                  have h := HMQ.out.l.l
                  rw [this] at h; exact h
                · have : i = a := by omega
                  have h := HMQ.out.l.r
                  rw [this] at h; exact h)
              clear hR
              go_wp2_with fail
              go_meet
              case rel => exact ⟨q1, HS1.out, HC1.out, Turn.refl _ _ _, HO2.out⟩
          case rest =>
            obtain ⟨q2, hs2, hc2, ht2, ho2⟩ := hcut
            have HS2 := Lib.hid hs2; have HC2 := Lib.hid hc2; have HT2 := Lib.hid ht2; have HO2 := Lib.hid ho2
            have HTW := Lib.hid (HMQ.out.r.turn (by have := HB.out; omega) (by have := HB.out; omega) ht2 (.inl (Nat.le_refl _)))
            clear hs2 hc2 ht2 ho2
            obtain ⟨wv, rfl⟩ : ∃ x, x = wc := ⟨_, rfl⟩
            by_cases hA : mid < e
            · have hA' : (mid : Int) < (e : Int) := by omega
              by_cases hB : e < b
              · have hB' : (e : Int) < (b : Int) := by omega
                have HIH := Lib.hid (IH.out mid e b hA hB hbn (by have := HML.out; omega) wv q2 HS2.out HTW.out)
                clear hA hB
                go_wp2_with fail
                refine HIH.out.mono ?_
                rintro e_ w2 ⟨q3, ⟨rfl, hs3, hc3⟩, ht3, ho3⟩
                have HS3 := Lib.hid hs3; have HC3 := Lib.hid (HC2.out.trans hc3 (fun _ _ e => e)); have HT3 := Lib.hid ht3; have HO3 := Lib.hid ho3
                clear hs3 hc3 ht3 ho3
                go_wp2_with fail
                go_end0
                have hml := HML.out
                exact ⟨q3, ⟨rfl, HS3.out, HC3.out⟩, (HTQ.out.trans (HT2.out.wide (Nat.le_refl _) (by omega))).trans (HT3.out.wide (by omega) (Nat.le_refl _)), HMQ.out.done HT2.out HO2.out HT3.out HO3.out (by omega) (by omega)⟩
              · have hB' : ¬ (e : Int) < (b : Int) := by omega
                have HO3 := Lib.hid (show Sorted V.key q2 mid b by
                  have : e = b := by have := HB.out; omega
                  have h := HTW.out.l
                  rw [this] at h; exact h)
                clear hA hB
                go_wp2_with fail
                go_end0
                have hml := HML.out
                exact ⟨q2, ⟨rfl, HS2.out, HC2.out⟩, HTQ.out.trans (HT2.out.wide (Nat.le_refl _) (by omega)), HMQ.out.done HT2.out HO2.out (Turn.refl _ _ _) HO3.out (by omega) (by omega)⟩
            · have hA' : ¬ (mid : Int) < (e : Int) := by omega
              have HO3 := Lib.hid (show Sorted V.key q2 mid b by
                have : e = mid := by have := HB.out; omega
                have h := HTW.out.r
                rw [this] at h; exact h)
              clear hA
              go_wp2_with fail
              go_end0
              have hml := HML.out
              exact ⟨q2, ⟨rfl, HS2.out, HC2.out⟩, HTQ.out.trans (HT2.out.wide (Nat.le_refl _) (by omega)), HMQ.out.done HT2.out HO2.out (Turn.refl _ _ _) HO3.out (by omega) (by omega)⟩
/-- Two ranges in order are merged. -/
theorem sym_any (g N n c : Nat) (V : Cel) (hn : n ≤ 1000000) (hc : n ≤ c) : ∀ (d a m b : Nat), b - a ≤ d → a < m → m < b → b ≤ n → SymC g N n c V a m b
  | 0, a, m, b, hd, h1, h2, h3 => by omega
  | d + 1, a, m, b, hd, h1, h2, h3 => by
    by_cases e1 : m = a + 1
    · exact sym_l g N n c V hn hc a m b h1 h2 h3 e1
    by_cases e2 : b = m + 1
    · exact sym_r g N n c V hn hc a m b h1 h2 h3 e1 e2
    exact sym_m g N n c V hn hc a m b h1 h2 h3 e1 e2 (fun a1 m1 b1 k1 k2 k3 k4 => sym_any g N n c V hn hc d a1 m1 b1 (by omega) k1 k2 k3)
end Go.Proofs.Ytiecbgclkdlpkaa
