/-
  The walks of mortiseref7.SameHead and mortiseref8.Same: they tell whether two units are one. The conditions: both read.
-/
import Derived.Test.YtghnaaahkbnhlaaSame8
namespace Go.Proofs.Ytghnaaahkbnhlaa
open Go.RowKit
set_option linter.unusedVariables false
set_option linter.unusedSimpArgs false
attribute [local irreducible] wpStill

def EqHeadV (t u : Un) : Prop := ∀ (w : World) (vs us : List Value), Vals w t.d vs → Vals w u.d us → Calls Try.prog 31 #[.agg vs.toArray, .agg us.toArray] w (Ans w (.bool (eqHead t u)))
def EqLoopImp (W : World) (l m : List Imp) (k : Nat) (wr : World) : Prop := (∀ j (h : j < l.length) (h' : j < m.length), j < k → eqImp l[j] m[j] = true) ∧ Below W.heap.size W wr
def EqLoopDcl (W : World) (l m : List Dcl) (k : Nat) (wr : World) : Prop := (∀ j (h : j < l.length) (h' : j < m.length), j < k → eqDcl l[j] m[j] = true) ∧ Below W.heap.size W wr
theorem EqLoopImp.next {W w2 : World} {l m : List Imp} {k : Nat} (h : ∀ j (h : j < l.length) (h' : j < m.length), j < k → eqImp l[j] m[j] = true) (hk : k < l.length) (hk' : k < m.length) (hp : eqImp l[k] m[k] = true) (hb : Below W.heap.size W w2) : EqLoopImp W l m (k + 1) w2 :=
  ⟨fun j hj hj' hjk => by
    by_cases e : j = k
    · subst e; exact hp
    · exact h j hj hj' (by omega), hb⟩
theorem EqLoopDcl.next {W w2 : World} {l m : List Dcl} {k : Nat} (h : ∀ j (h : j < l.length) (h' : j < m.length), j < k → eqDcl l[j] m[j] = true) (hk : k < l.length) (hk' : k < m.length) (hp : eqDcl l[k] m[k] = true) (hb : Below W.heap.size W w2) : EqLoopDcl W l m (k + 1) w2 :=
  ⟨fun j hj hj' hjk => by
    by_cases e : j = k
    · subst e; exact hp
    · exact h j hj hj' (by omega), hb⟩
set_option maxRecDepth 100000 in
set_option maxHeartbeats 3200000 in
theorem sameHead_any (t u : Un) : EqHeadV t u := by
  intro w vs us hv hu
  obtain ⟨A1, c1, A2, c2, A3, c3, rfl, q0, q1, q2, q3⟩ := Un.opn hv
  obtain ⟨A1', c1', A2', c2', A3', c3', rfl, q0', q1', q2', q3'⟩ := Un.opn hu
  have hw2 : Below w.heap.size w ((w.alloc (.cells #[.string t.pkg, .slice A1 t.imports.length c1, .slice A2 t.decls.length c2, .slice A3 t.bodies.length c3] 30)).alloc (.cells #[.string u.pkg, .slice A1' u.imports.length c1', .slice A2' u.decls.length c2', .slice A3' u.bodies.length c3'] 30)) := ((Below.refl _ w).alloc (Nat.le_refl _) _).alloc (by simp) _
  have hA1 := alloc_old (alloc_at w (.cells #[.string t.pkg, .slice A1 t.imports.length c1, .slice A2 t.decls.length c2, .slice A3 t.bodies.length c3] 30)) (.cells #[.string u.pkg, .slice A1' u.imports.length c1', .slice A2' u.decls.length c2', .slice A3' u.bodies.length c3'] 30)
  have hA2 := alloc_at (w.alloc (.cells #[.string t.pkg, .slice A1 t.imports.length c1, .slice A2 t.decls.length c2, .slice A3 t.bodies.length c3] 30)) (.cells #[.string u.pkg, .slice A1' u.imports.length c1', .slice A2' u.decls.length c2', .slice A3' u.bodies.length c3'] 30)
  rw [World.size_alloc] at hA2
  have H11 := Lib.hid ((cell_at hA1 1).trans rfl : _ = some (.slice A1 t.imports.length c1))
  have H12 := Lib.hid ((cell_at hA1 2).trans rfl : _ = some (.slice A2 t.decls.length c2))
  have H21 := Lib.hid ((cell_at hA2 1).trans rfl : _ = some (.slice A1' u.imports.length c1'))
  have H22 := Lib.hid ((cell_at hA2 2).trans rfl : _ = some (.slice A2' u.decls.length c2'))
  have HW := Lib.hid hw2; clear hw2 hv hu
  have r1 := q1.2.2.1
  have r1' := q1'.2.2.1
  have r2 := q2.2.2.1
  have r2' := q2'.2.2.1
  unfold Reach at r1 r2 r1' r2'
  have Q0 := Lib.hid q0; have Q0' := Lib.hid q0'; clear q0 q0'
  have Q1 := Lib.hid q1; have Q1' := Lib.hid q1'; clear q1 q1'
  have Q2 := Lib.hid q2; have Q2' := Lib.hid q2'; clear q2 q2'
  have Q3 := Lib.hid q3; have Q3' := Lib.hid q3'; clear q3 q3'
  by_cases e0 : t.pkg.toList = u.pkg.toList
  case neg =>
    have z0 : (t.pkg.toList == u.pkg.toList) = false := by simp [e0]
    have Z0 := Lib.hid z0
    have HA1 := Lib.hid hA1; have HA2 := Lib.hid hA2; clear hA1 hA2
    go_enter Try.func31, Try.ntmps31
    go_wp2_with fail
    refine bodyPost_ret (results_tmp rfl _ _ _) rfl ⟨?_, HW.out⟩
    rw [eqHead, Z0.out]; rfl
  have z0 : (t.pkg.toList == u.pkg.toList) = true := by simp [e0]
  have Z0 := Lib.hid z0
  clear e0
  by_cases e1 : t.imports.length = u.imports.length
  case neg =>
    have y1 : ((t.imports.length : Int) != (u.imports.length : Int)) = true := by simp; omega
    have Z1 := Lib.hid (eqImpL_len _ _ e1)
    clear e1
    have HA1 := Lib.hid hA1; have HA2 := Lib.hid hA2; clear hA1 hA2
    go_enter Try.func31, Try.ntmps31
    go_wp2_with fail
    refine bodyPost_ret (results_tmp rfl _ _ _) rfl ⟨?_, HW.out⟩
    rw [eqHead, Z0.out, Z1.out]; rfl
  have y1 : ((t.imports.length : Int) != (u.imports.length : Int)) = false := by simp [e1]
  have E1 := Lib.hid e1
  clear e1
  by_cases e2 : t.decls.length = u.decls.length
  case neg =>
    have y2 : ((t.decls.length : Int) != (u.decls.length : Int)) = true := by simp; omega
    have Z2 := Lib.hid (eqDclL_len _ _ e2)
    clear e2
    have HA1 := Lib.hid hA1; have HA2 := Lib.hid hA2; clear hA1 hA2
    go_enter Try.func31, Try.ntmps31
    go_wp2_with fail
    refine bodyPost_ret (results_tmp rfl _ _ _) rfl ⟨?_, HW.out⟩
    rw [eqHead, Z0.out, Z2.out, Bool.and_false]; rfl
  have y2 : ((t.decls.length : Int) != (u.decls.length : Int)) = false := by simp [e2]
  have E2 := Lib.hid e2
  clear e2
  have HA1 := Lib.hid hA1; have HA2 := Lib.hid hA2; clear hA1 hA2
  go_enter Try.func31, Try.ntmps31
  go_wp2_with fail
  go_loopw [5] (fun i wr => ∃ k : Nat, k ≤ t.imports.length ∧ i = .int .i64 k ∧ EqLoopImp ((w.alloc (.cells #[.string t.pkg, .slice A1 t.imports.length c1, .slice A2 t.decls.length c2, .slice A3 t.bodies.length c3] 30)).alloc (.cells #[.string u.pkg, .slice A1' u.imports.length c1', .slice A2' u.decls.length c2', .slice A3' u.bodies.length c3'] 30)) t.imports u.imports k wr) (fun i _ => t.imports.length - (intOf i).toNat)
  case atStart => exact ⟨0, Nat.zero_le _, rfl, fun _ _ _ h => absurd h (Nat.not_lt_zero _), Below.refl _ _⟩
  case round =>
    obtain ⟨k, hk, rfl, hw⟩ := hrel
    have x1 := Below.sub hw.2 _ _ H11.out
    have x2 := Below.sub hw.2 _ _ H21.out
    have HB := Lib.hid hw.2
    have HN := Lib.hid hw.1
    clear hw
    by_cases hlt : k < t.imports.length
    · have hlt' : k < u.imports.length := by have := E1.out; omega
      have hi' : (k : Int) < (u.imports.length : Int) := by omega
      obtain ⟨b, o, hA, e0, e1, q0, q1⟩ := Imp.at Q1.out.2.2.2 k hlt
      obtain ⟨b', o', hA', e0', e1', q0', q1'⟩ := Imp.at Q1'.out.2.2.2 k hlt'
      subst hA hA'
      have hsub := Below.sub (HW.out.trans (HB.out.mono HW.out.size))
      have f0 := hsub _ _ e0; have g0 := hsub _ _ e0'; clear e0 e0'
      have f1 := hsub _ _ e1; have g1 := hsub _ _ e1'; clear e1 e1'
      have P0 := Lib.hid q0; have P0' := Lib.hid q0'; clear q0 q0'
      have P1 := Lib.hid q1; have P1' := Lib.hid q1'; clear q1 q1'
      clear hsub
      cases y3 : (t.imports[k].name.toList == u.imports[k].name.toList) with
      | false =>
        have Y0 := Lib.hid y3
        go_wp2_with fail
        go_still (by kernel_rfl)
        go_wp2_with fail
        refine bodyPost_ret (results_tmp rfl _ _ _) rfl ⟨?_, HW.out.trans (HB.out.drew.mono HW.out.size)⟩
        rw [eqHead, eqImpL_not _ _ k hlt hlt' (by rw [eqImp_eq, Y0.out, Bool.false_and]), Bool.false_and, Bool.and_false]; rfl
      | true =>
        have Y0 := Lib.hid y3
        cases y4 : (t.imports[k].hash == u.imports[k].hash) with
        | false =>
          have Y1 := Lib.hid y4
          go_wp2_with fail
          go_still (by kernel_rfl)
          go_wp2_with fail
          refine bodyPost_ret (results_tmp rfl _ _ _) rfl ⟨?_, HW.out.trans (HB.out.drew.mono HW.out.size)⟩
          rw [eqHead, eqImpL_not _ _ k hlt hlt' (by rw [eqImp_eq, Y1.out, Bool.and_false]), Bool.false_and, Bool.and_false]; rfl
        | true =>
          have Y1 := Lib.hid y4
          go_wp2_with fail
          go_still (by kernel_rfl)
          go_wp2_with fail
          go_roundw
          case rel => exact ⟨k + 1, by omega, by go_num, EqLoopImp.next HN.out hlt hlt' (by rw [eqImp_eq, Y0.out, Y1.out]; rfl) HB.out.drew⟩
          case measure => simp [intOf]; omega
    have HQ1 := Lib.hid (eqImpL_all _ _ E1.out (fun j h h' => HN.out j h h' (by omega)))
    clear HN
    go_wp2_with fail
    clear x1 x2 hlt
    obtain ⟨wo, rfl⟩ : ∃ wo : World, wo = wr := ⟨_, rfl⟩
    have HB0 := HB; clear HB
    go_loopw [6] (fun i wr => ∃ k : Nat, k ≤ t.decls.length ∧ i = .int .i64 k ∧ EqLoopDcl ((w.alloc (.cells #[.string t.pkg, .slice A1 t.imports.length c1, .slice A2 t.decls.length c2, .slice A3 t.bodies.length c3] 30)).alloc (.cells #[.string u.pkg, .slice A1' u.imports.length c1', .slice A2' u.decls.length c2', .slice A3' u.bodies.length c3'] 30)) t.decls u.decls k wr) (fun i _ => t.decls.length - (intOf i).toNat)
    case atStart => exact ⟨0, Nat.zero_le _, rfl, fun _ _ _ h => absurd h (Nat.not_lt_zero _), HB0.out⟩
    case round =>
      obtain ⟨k, hk, rfl, hw⟩ := hrel
      have x1 := Below.sub hw.2 _ _ H12.out
      have x2 := Below.sub hw.2 _ _ H22.out
      have HB := Lib.hid hw.2
      have HN := Lib.hid hw.1
      clear hw
      by_cases hlt : k < t.decls.length
      · have hlt' : k < u.decls.length := by have := E2.out; omega
        have hi' : (k : Int) < (u.decls.length : Int) := by omega
        obtain ⟨b, o, hA, B7, d7, B8, d8, B9, d9, e0, e1, e2, e3, e4, e5, e6, e7, e8, e9, q0, q1, q2, q3, q4, q5, q6, q7, q8, q9⟩ := Dcl.at Q2.out.2.2.2 k hlt
        obtain ⟨b', o', hA', B7', d7', B8', d8', B9', d9', e0', e1', e2', e3', e4', e5', e6', e7', e8', e9', q0', q1', q2', q3', q4', q5', q6', q7', q8', q9'⟩ := Dcl.at Q2'.out.2.2.2 k hlt'
        subst hA hA'
        have hsub := Below.sub (HW.out.trans (HB.out.mono HW.out.size))
        have f0 := hsub _ _ e0; have g0 := hsub _ _ e0'; clear e0 e0'
        have f1 := hsub _ _ e1; have g1 := hsub _ _ e1'; clear e1 e1'
        have f2 := hsub _ _ e2; have g2 := hsub _ _ e2'; clear e2 e2'
        have f3 := hsub _ _ e3; have g3 := hsub _ _ e3'; clear e3 e3'
        have f4 := hsub _ _ e4; have g4 := hsub _ _ e4'; clear e4 e4'
        have f5 := hsub _ _ e5; have g5 := hsub _ _ e5'; clear e5 e5'
        have f6 := hsub _ _ e6; have g6 := hsub _ _ e6'; clear e6 e6'
        have f7 := hsub _ _ e7; have g7 := hsub _ _ e7'; clear e7 e7'
        have f8 := hsub _ _ e8; have g8 := hsub _ _ e8'; clear e8 e8'
        have f9 := hsub _ _ e9; have g9 := hsub _ _ e9'; clear e9 e9'
        have P0 := Lib.hid q0; have P0' := Lib.hid q0'; clear q0 q0'
        have P1 := Lib.hid q1; have P1' := Lib.hid q1'; clear q1 q1'
        have P2 := Lib.hid q2; have P2' := Lib.hid q2'; clear q2 q2'
        have P3 := Lib.hid q3; have P3' := Lib.hid q3'; clear q3 q3'
        have P4 := Lib.hid q4; have P4' := Lib.hid q4'; clear q4 q4'
        have P5 := Lib.hid q5; have P5' := Lib.hid q5'; clear q5 q5'
        have P6 := Lib.hid q6; have P6' := Lib.hid q6'; clear q6 q6'
        have P7 := Lib.hid q7; have P7' := Lib.hid q7'; clear q7 q7'
        have P8 := Lib.hid q8; have P8' := Lib.hid q8'; clear q8 q8'
        have P9 := Lib.hid q9; have P9' := Lib.hid q9'; clear q9 q9'
        clear hsub
        cases y3 : eqDcl t.decls[k] u.decls[k] with
        | false =>
          have Y0 := Lib.hid y3; clear y3
          go_wp2_with fail
          go_still_tail 10, (by kernel_rfl)
          change wpList _ _ _ _ _ wr.drew
          go_wp2_with fail
          refine (eqDclV _ _ _ _ _ ((Dcl.shut (w := w) (t := t.decls[k]) P0.out P1.out P2.out P3.out P4.out P5.out P6.out P7.out P8.out P9.out).sub (Below.sub (HW.out.trans (HB.out.drew.mono HW.out.size)))) ((Dcl.shut (w := w) (t := u.decls[k]) P0'.out P1'.out P2'.out P3'.out P4'.out P5'.out P6'.out P7'.out P8'.out P9'.out).sub (Below.sub (HW.out.trans (HB.out.drew.mono HW.out.size))))).mono ?_
          rintro e w1 he
          obtain ⟨rfl, hb1⟩ := he.bool Y0.out; clear he
          have B1 := Lib.hid (HB.out.drew.trans (hb1.mono HB.out.drew.size)); clear hb1
          go_wp2_with fail
          refine bodyPost_ret (results_tmp rfl _ _ _) rfl ⟨?_, HW.out.trans (B1.out.mono HW.out.size)⟩
          rw [eqHead, eqDclL_not _ _ k hlt hlt' Y0.out, Bool.and_false, Bool.and_false]; rfl
        | true =>
          have Y0 := Lib.hid y3; clear y3
          go_wp2_with fail
          go_still_tail 10, (by kernel_rfl)
          change wpList _ _ _ _ _ wr.drew
          go_wp2_with fail
          refine (eqDclV _ _ _ _ _ ((Dcl.shut (w := w) (t := t.decls[k]) P0.out P1.out P2.out P3.out P4.out P5.out P6.out P7.out P8.out P9.out).sub (Below.sub (HW.out.trans (HB.out.drew.mono HW.out.size)))) ((Dcl.shut (w := w) (t := u.decls[k]) P0'.out P1'.out P2'.out P3'.out P4'.out P5'.out P6'.out P7'.out P8'.out P9'.out).sub (Below.sub (HW.out.trans (HB.out.drew.mono HW.out.size))))).mono ?_
          rintro e w1 he
          obtain ⟨rfl, hb1⟩ := he.bool Y0.out; clear he
          have B1 := Lib.hid (HB.out.drew.trans (hb1.mono HB.out.drew.size)); clear hb1
          go_wp2_with fail
          go_roundw
          case rel => exact ⟨k + 1, by omega, by go_num, EqLoopDcl.next HN.out hlt hlt' Y0.out B1.out⟩
          case measure => simp [intOf]; omega
      have HQ2 := Lib.hid (eqDclL_all _ _ E2.out (fun j h h' => HN.out j h h' (by omega)))
      clear HN
      go_wp2_with fail
      refine bodyPost_ret (results_tmp rfl _ _ _) rfl ⟨?_, HW.out.trans (HB.out.mono HW.out.size)⟩
      rw [eqHead, Z0.out, HQ1.out, HQ2.out]; rfl
def EqUnV (t u : Un) : Prop := ∀ (w : World) (vs us : List Value), Vals w t.d vs → Vals w u.d us → Calls Try.prog 15 #[.agg vs.toArray, .agg us.toArray] w (Ans w (.bool (eqUn t u)))
set_option maxRecDepth 100000 in
set_option maxHeartbeats 3200000 in
theorem same_any (t u : Un) : EqUnV t u := by
  intro w vs us hv hu
  have HV := Lib.hid hv; have HU := Lib.hid hu
  obtain ⟨A1, c1, A2, c2, A3, c3, rfl, q0, q1, q2, q3⟩ := Un.opn hv
  obtain ⟨A1', c1', A2', c2', A3', c3', rfl, q0', q1', q2', q3'⟩ := Un.opn hu
  have hw2 : Below w.heap.size w ((w.alloc (.cells #[.string t.pkg, .slice A1 t.imports.length c1, .slice A2 t.decls.length c2, .slice A3 t.bodies.length c3] 30)).alloc (.cells #[.string u.pkg, .slice A1' u.imports.length c1', .slice A2' u.decls.length c2', .slice A3' u.bodies.length c3'] 30)) := ((Below.refl _ w).alloc (Nat.le_refl _) _).alloc (by simp) _
  have hA1 := alloc_old (alloc_at w (.cells #[.string t.pkg, .slice A1 t.imports.length c1, .slice A2 t.decls.length c2, .slice A3 t.bodies.length c3] 30)) (.cells #[.string u.pkg, .slice A1' u.imports.length c1', .slice A2' u.decls.length c2', .slice A3' u.bodies.length c3'] 30)
  have hA2 := alloc_at (w.alloc (.cells #[.string t.pkg, .slice A1 t.imports.length c1, .slice A2 t.decls.length c2, .slice A3 t.bodies.length c3] 30)) (.cells #[.string u.pkg, .slice A1' u.imports.length c1', .slice A2' u.decls.length c2', .slice A3' u.bodies.length c3'] 30)
  rw [World.size_alloc] at hA2
  have HA1 := Lib.hid hA1; have HA2 := Lib.hid hA2; have HW := Lib.hid hw2; clear hA1 hA2 hw2 hv hu
  have Q3 := Lib.hid q3; have Q3' := Lib.hid q3'; clear q0 q1 q2 q3 q0' q1' q2' q3'
  cases y : eqHead t u with
  | false =>
    have Y := Lib.hid y; clear y
    go_enter Try.func15, Try.ntmps15
    go_wp2_with fail
    refine (sameHead_any t u _ _ _ (HV.out.sub (Below.sub HW.out)) (HU.out.sub (Below.sub HW.out))).mono ?_
    rintro e w1 he
    obtain ⟨rfl, hb1⟩ := he.bool Y.out; clear he
    have x1 := Below.sub hb1 _ _ ((cell_at HA1.out 3).trans rfl : _ = some (.slice A3 t.bodies.length c3))
    have x2 := Below.sub hb1 _ _ ((cell_at HA2.out 3).trans rfl : _ = some (.slice A3' u.bodies.length c3'))
    have B1 := Lib.hid (HW.out.trans (hb1.mono HW.out.size)); clear hb1
    go_wp2_with fail
    refine bodyPost_ret (results_tmp rfl _ _ _) rfl ⟨?_, B1.out⟩
    rw [eqUn, Y.out]; rfl
  | true =>
    have Y := Lib.hid y; clear y
    go_enter Try.func15, Try.ntmps15
    go_wp2_with fail
    refine (sameHead_any t u _ _ _ (HV.out.sub (Below.sub HW.out)) (HU.out.sub (Below.sub HW.out))).mono ?_
    rintro e w1 he
    obtain ⟨rfl, hb1⟩ := he.bool Y.out; clear he
    have x1 := Below.sub hb1 _ _ ((cell_at HA1.out 3).trans rfl : _ = some (.slice A3 t.bodies.length c3))
    have x2 := Below.sub hb1 _ _ ((cell_at HA2.out 3).trans rfl : _ = some (.slice A3' u.bodies.length c3'))
    have B1 := Lib.hid (HW.out.trans (hb1.mono HW.out.size)); clear hb1
    go_wp2_with fail
    refine (eqFnLV t.bodies u.bodies _ A3 A3' c3 c3' (Q3.out.sub (Below.sub B1.out)) (Q3'.out.sub (Below.sub B1.out))).mono ?_
    rintro e w2 ⟨rfl, hb2⟩
    have B2 := Lib.hid (B1.out.trans (hb2.mono B1.out.size)); clear hb2
    go_wp2_with fail
    refine bodyPost_ret (results_tmp rfl _ _ _) rfl ⟨?_, B2.out⟩
    rw [eqUn, Y.out]; rfl
end Go.Proofs.Ytghnaaahkbnhlaa
