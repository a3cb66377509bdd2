/-
  The walk of KindsInfers. The condition: what is handed in reads.
-/
import Derived.Test.YtiecbgclkdlpkaaKRin
import Derived.Test.YtiecbgclkdlpkaaKGreat
import Derived.Test.YtiecbgclkdlpkaaSame7
namespace Go.Proofs.Ytiecbgclkdlpkaa
open Go.RowKit
set_option linter.unusedVariables false
set_option linter.unusedSimpArgs false
attribute [local irreducible] wpStill wpOrd wpT

set_option maxRecDepth 100000 in
set_option maxHeartbeats 3200000 in
theorem kindsInfers_any (w : World) (names : List ByteArray) (A : Option Addr) (c : Nat) (hn : SL w 1 (strs names) names.length A c) (ps : List Ty) (A1 : Option Addr) (c1 : Nat) (hp : SL w 5 (Ty.ds ps) ps.length A1 c1) (qs : List Ty) (A2 : Option Addr) (c2 : Nat) (ha : SL w 5 (Ty.ds qs) qs.length A2 c2) :
    Calls Try.prog 5 #[.slice A names.length c, .slice A1 ps.length c1, .slice A2 qs.length c2] w (Ans w (.bool true)) := by
  have HN := Lib.hid hn; have HP := Lib.hid hp; have HA := Lib.hid ha
  have hnl := hn.2.2.1
  unfold Reach at hnl
  clear hn hp ha
  go_enter Try.func5, Try.ntmps5
  go_wp2_with fail
  refine (great_any w ps A1 c1 HP.out).mono ?_
  rintro e w1 ⟨g, rfl, hg, hb⟩
  have HB1 := Lib.hid hb
  clear hb hg
  cases g
  case true =>
    go_wp2_with fail
    refine (awake_any w1).mono ?_
    rintro e wz ⟨rfl, hb⟩
    have HBZ := Lib.hid (HB1.out.trans (hb.mono HB1.out.size)); clear hb
    go_wp2_with fail
    exact bodyPost_ret (results_tmp rfl _ _ _) rfl ⟨rfl, HBZ.out⟩
  go_wp2_with fail
  refine (great_any w1 qs A2 c2 (HA.out.sub (Below.sub HB1.out))).mono ?_
  rintro e w2 ⟨g, rfl, hg, hb⟩
  have HB2 := Lib.hid (HB1.out.trans (hb.mono HB1.out.size))
  clear hb
  cases g
  case true =>
    clear hg
    go_wp2_with fail
    refine (awake_any w2).mono ?_
    rintro e wz ⟨rfl, hb⟩
    have HBZ := Lib.hid (HB2.out.trans (hb.mono HB2.out.size)); clear hb
    go_wp2_with fail
    exact bodyPost_ret (results_tmp rfl _ _ _) rfl ⟨rfl, HBZ.out⟩
  have HSS := Lib.hid (show ∀ x ∈ qs, x.sz ≤ 1000000 from fun x hx => by have := hg rfl; have := Ty.mem_sz hx; omega)
  clear hg
  by_cases hlen : (names.length : Int) > 50
  case pos =>
    go_wp2_with fail
    refine (awake_any w2).mono ?_
    rintro e wz ⟨rfl, hb⟩
    have HBZ := Lib.hid (HB2.out.trans (hb.mono HB2.out.size)); clear hb
    go_wp2_with fail
    exact bodyPost_ret (results_tmp rfl _ _ _) rfl ⟨rfl, HBZ.out⟩
  have HNL := Lib.hid (show names.length ≤ 1000000 by omega)
  go_wp2_with fail
  refine (infer_any w2 names ps qs _ _ _ _ _ _ (HN.out.sub (Below.sub HB2.out)) (HP.out.sub (Below.sub HB2.out)) (HA.out.sub (Below.sub HB2.out)) HNL.out HSS.out).mono ?_
  rintro e w3 (⟨hr, rfl, hb⟩ | ⟨ts, E, z, hr, rfl, hsl, hb⟩)
  all_goals
    have HR := Lib.hid hr
    have HB3 := Lib.hid (HB2.out.trans (hb.mono HB2.out.size))
    clear hr hb
  case inl =>
    go_wp2_with fail
    refine (rinfer_any w3 names ps qs _ _ _ _ _ _ (HN.out.sub (Below.sub HB3.out)) (HP.out.sub (Below.sub HB3.out)) (HA.out.sub (Below.sub HB3.out)) HNL.out HSS.out).mono ?_
    rw [HR.out]
    rintro e w4 (⟨hr, rfl, hb⟩ | ⟨us, E', z', hr, rfl, hsl', hb⟩)
    case inr => cases hr
    have HB4 := Lib.hid (HB3.out.trans (hb.mono HB3.out.size))
    clear hb hr
    go_wp2_with fail
    refine (eqTyLV [] [] w4 none none 0 0 (SL.nil w4 5) (SL.nil w4 5)).mono ?_
    rw [(eqTyL_iff [] []).2 rfl]
    rintro e w5 ⟨rfl, hb⟩
    have HB5 := Lib.hid (HB4.out.trans (hb.mono HB4.out.size)); clear hb
    go_wp2_with fail
    refine (awake_any w5).mono ?_
    rintro e wz ⟨rfl, hb⟩
    have HBZ := Lib.hid (HB5.out.trans (hb.mono HB5.out.size)); clear hb
    go_wp2_with fail
    exact bodyPost_ret (results_tmp rfl _ _ _) rfl ⟨rfl, HBZ.out⟩
  case inr =>
    have HSL := Lib.hid (hsl.sub (new_sub _ _ _))
    clear hsl
    go_wp2_with fail
    refine (rinfer_any w3 names ps qs _ _ _ _ _ _ (HN.out.sub (Below.sub HB3.out)) (HP.out.sub (Below.sub HB3.out)) (HA.out.sub (Below.sub HB3.out)) HNL.out HSS.out).mono ?_
    rw [HR.out]
    rintro e w4 (⟨hr, rfl, hb⟩ | ⟨us, E', z', hr, rfl, hsl', hb⟩)
    case inl => cases hr
    injection hr with hr
    subst hr
    have HSL2 := Lib.hid hsl'
    have HSL1 := Lib.hid (HSL.out.sub (Below.sub hb))
    have HB4 := Lib.hid (HB3.out.trans (hb.mono HB3.out.size))
    clear hb hsl'
    go_wp2_with fail
    refine (eqTyLV ts ts w4 _ _ _ _ HSL1.out HSL2.out).mono ?_
    rw [(eqTyL_iff ts ts).2 rfl]
    rintro e w5 ⟨rfl, hb⟩
    have HB5 := Lib.hid (HB4.out.trans (hb.mono HB4.out.size)); clear hb
    go_wp2_with fail
    refine (awake_any w5).mono ?_
    rintro e wz ⟨rfl, hb⟩
    have HBZ := Lib.hid (HB5.out.trans (hb.mono HB5.out.size)); clear hb
    go_wp2_with fail
    exact bodyPost_ret (results_tmp rfl _ _ _) rfl ⟨rfl, HBZ.out⟩
end Go.Proofs.Ytiecbgclkdlpkaa
