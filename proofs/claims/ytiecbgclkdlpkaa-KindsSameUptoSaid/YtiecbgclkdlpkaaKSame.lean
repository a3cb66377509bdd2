/-
  The walks of kinds.Same and of kinds.all over types: they tell whether two types are one. The conditions: the types read.
-/
import Derived.Test.YtiecbgclkdlpkaaSame7
namespace Go.Proofs.Ytiecbgclkdlpkaa
open Go.RowKit
set_option linter.unusedVariables false
set_option linter.unusedSimpArgs false
attribute [local irreducible] wpStill

def KEqTyV (t u : Ty) : Prop := ∀ (w : World) (vs us : List Value), Vals w t.d vs → Vals w u.d us → Calls Try.prog 18 #[.agg vs.toArray, .agg us.toArray] w (Ans w (.bool (eqTy t u)))
def KEqTyL (l m : List Ty) : Prop := ∀ (w : World) (A A' : Option Addr) (c c' : Nat), SL w 5 (Ty.ds l) l.length A c → SL w 5 (Ty.ds m) m.length A' c' → Calls Try.prog 43 #[.slice A l.length c, .slice A' m.length c', .func (.func 18) #[] #[]] w (Ans w (.bool (eqTyL l m)))

set_option maxRecDepth 100000 in
set_option maxHeartbeats 3200000 in
theorem ksameTy_any (t u : Ty) (o_args : KEqTyL t.args u.args) (o_res : KEqTyL t.res u.res) : KEqTyV t u := by
  intro w vs us hv hu
  obtain ⟨A3, c3, A4, c4, rfl, q0, q1, q2, q3, q4⟩ := Ty.opn hv
  obtain ⟨A3', c3', A4', c4', rfl, q0', q1', q2', q3', q4'⟩ := Ty.opn hu
  have hw2 : Below w.heap.size w ((w.alloc (.cells #[.int .i64 t.kind, .string t.pkg, .string t.name, .slice A3 t.args.length c3, .slice A4 t.res.length c4] 26)).alloc (.cells #[.int .i64 u.kind, .string u.pkg, .string u.name, .slice A3' u.args.length c3', .slice A4' u.res.length c4'] 26)) := ((Below.refl _ w).alloc (Nat.le_refl _) _).alloc (by simp) _
  have hA1 := alloc_old (alloc_at w (.cells #[.int .i64 t.kind, .string t.pkg, .string t.name, .slice A3 t.args.length c3, .slice A4 t.res.length c4] 26)) (.cells #[.int .i64 u.kind, .string u.pkg, .string u.name, .slice A3' u.args.length c3', .slice A4' u.res.length c4'] 26)
  have hA2 := alloc_at (w.alloc (.cells #[.int .i64 t.kind, .string t.pkg, .string t.name, .slice A3 t.args.length c3, .slice A4 t.res.length c4] 26)) (.cells #[.int .i64 u.kind, .string u.pkg, .string u.name, .slice A3' u.args.length c3', .slice A4' u.res.length c4'] 26)
  rw [World.size_alloc] at hA2
  have HW := Lib.hid hw2; have HA1 := Lib.hid hA1; have HA2 := Lib.hid hA2; clear hw2 hA1 hA2 hv hu
  have O_args := Lib.hid o_args; clear o_args
  have O_res := Lib.hid o_res; clear o_res
  have Q0 := Lib.hid q0; have Q0' := Lib.hid q0'; clear q0 q0'
  have Q1 := Lib.hid q1; have Q1' := Lib.hid q1'; clear q1 q1'
  have Q2 := Lib.hid q2; have Q2' := Lib.hid q2'; clear q2 q2'
  have Q3 := Lib.hid q3; have Q3' := Lib.hid q3'; clear q3 q3'
  have Q4 := Lib.hid q4; have Q4' := Lib.hid q4'; clear q4 q4'
  cases z0 : (t.kind == u.kind) with
  | false =>
    have Z0 := Lib.hid z0
    have y0 : (t.kind != u.kind) = true := by simp [bne, z0]
    go_enter Try.func18, Try.ntmps18
    go_wp2_with fail
    refine bodyPost_ret (results_tmp rfl _ _ _) rfl ⟨?_, HW.out⟩
    rw [eqTy_eq, Z0.out]; rfl
  | true =>
    have Z0 := Lib.hid z0
    have y0 : (t.kind != u.kind) = false := by simp [bne, z0]
    cases z1 : (t.pkg.toList == u.pkg.toList) with
    | false =>
      have Z1 := Lib.hid z1
      go_enter Try.func18, Try.ntmps18
      go_wp2_with fail
      refine bodyPost_ret (results_tmp rfl _ _ _) rfl ⟨?_, HW.out⟩
      rw [eqTy_eq, Z0.out, Z1.out]; rfl
    | true =>
      have Z1 := Lib.hid z1
      cases z2 : (t.name.toList == u.name.toList) with
      | false =>
        have Z2 := Lib.hid z2
        go_enter Try.func18, Try.ntmps18
        go_wp2_with fail
        refine bodyPost_ret (results_tmp rfl _ _ _) rfl ⟨?_, HW.out⟩
        rw [eqTy_eq, Z0.out, Z1.out, Z2.out]; rfl
      | true =>
        have Z2 := Lib.hid z2
        cases z3 : eqTyL t.args u.args with
        | false =>
          have Z3 := Lib.hid z3
          clear z3
          go_enter Try.func18, Try.ntmps18
          go_wp2_with fail
          refine (O_args.out _ A3 A3' c3 c3' (Q3.out.sub (Below.sub HW.out)) (Q3'.out.sub (Below.sub HW.out))).mono ?_
          rintro e w1 he
          obtain ⟨rfl, hb1⟩ := he.bool Z3.out; clear he
          have d1_4 := Below.sub hb1 _ _ ((cell_at HA1.out 4).trans rfl : _ = some (.slice A4 t.res.length c4))
          have g1_4 := Below.sub hb1 _ _ ((cell_at HA2.out 4).trans rfl : _ = some (.slice A4' u.res.length c4'))
          have B1 := Lib.hid (HW.out.trans (hb1.mono HW.out.size)); clear hb1
          go_wp2_with fail
          refine bodyPost_ret (results_tmp rfl _ _ _) rfl ⟨?_, B1.out⟩
          rw [eqTy_eq, Z0.out, Z1.out, Z2.out, Z3.out]; rfl
        | true =>
          have Z3 := Lib.hid z3
          clear z3
          cases z4 : eqTyL t.res u.res with
          | false =>
            have Z4 := Lib.hid z4
            clear z4
            go_enter Try.func18, Try.ntmps18
            go_wp2_with fail
            refine (O_args.out _ A3 A3' c3 c3' (Q3.out.sub (Below.sub HW.out)) (Q3'.out.sub (Below.sub HW.out))).mono ?_
            rintro e w1 he
            obtain ⟨rfl, hb1⟩ := he.bool Z3.out; clear he
            have d1_4 := Below.sub hb1 _ _ ((cell_at HA1.out 4).trans rfl : _ = some (.slice A4 t.res.length c4))
            have g1_4 := Below.sub hb1 _ _ ((cell_at HA2.out 4).trans rfl : _ = some (.slice A4' u.res.length c4'))
            have B1 := Lib.hid (HW.out.trans (hb1.mono HW.out.size)); clear hb1
            go_wp2_with fail
            refine (O_res.out _ A4 A4' c4 c4' (Q4.out.sub (Below.sub B1.out)) (Q4'.out.sub (Below.sub B1.out))).mono ?_
            rintro e w2 he
            obtain ⟨rfl, hb2⟩ := he.bool Z4.out; clear he
            clear d1_4 g1_4
            have B2 := Lib.hid (B1.out.trans (hb2.mono B1.out.size)); clear hb2
            go_wp2_with fail
            refine bodyPost_ret (results_tmp rfl _ _ _) rfl ⟨?_, B2.out⟩
            rw [eqTy_eq, Z0.out, Z1.out, Z2.out, Z3.out, Z4.out]; rfl
          | true =>
            have Z4 := Lib.hid z4
            clear z4
            go_enter Try.func18, Try.ntmps18
            go_wp2_with fail
            refine (O_args.out _ A3 A3' c3 c3' (Q3.out.sub (Below.sub HW.out)) (Q3'.out.sub (Below.sub HW.out))).mono ?_
            rintro e w1 he
            obtain ⟨rfl, hb1⟩ := he.bool Z3.out; clear he
            have d1_4 := Below.sub hb1 _ _ ((cell_at HA1.out 4).trans rfl : _ = some (.slice A4 t.res.length c4))
            have g1_4 := Below.sub hb1 _ _ ((cell_at HA2.out 4).trans rfl : _ = some (.slice A4' u.res.length c4'))
            have B1 := Lib.hid (HW.out.trans (hb1.mono HW.out.size)); clear hb1
            go_wp2_with fail
            refine (O_res.out _ A4 A4' c4 c4' (Q4.out.sub (Below.sub B1.out)) (Q4'.out.sub (Below.sub B1.out))).mono ?_
            rintro e w2 he
            obtain ⟨rfl, hb2⟩ := he.bool Z4.out; clear he
            clear d1_4 g1_4
            have B2 := Lib.hid (B1.out.trans (hb2.mono B1.out.size)); clear hb2
            go_wp2_with fail
            refine bodyPost_ret (results_tmp rfl _ _ _) rfl ⟨?_, B2.out⟩
            rw [eqTy_eq, Z0.out, Z1.out, Z2.out, Z3.out, Z4.out]; rfl

def KEqLoopTy (W : World) (l m : List Ty) (k : Nat) (wr : World) : Prop := (∀ j (h : j < l.length) (h' : j < m.length), j < k → eqTy l[j] m[j] = true) ∧ Below W.heap.size W wr
theorem KEqLoopTy.next {W w2 : World} {l m : List Ty} {k : Nat} (h : ∀ j (h : j < l.length) (h' : j < m.length), j < k → eqTy l[j] m[j] = true) (hk : k < l.length) (hk' : k < m.length) (hp : eqTy l[k] m[k] = true) (hb : Below W.heap.size W w2) : KEqLoopTy W l m (k + 1) w2 :=
  ⟨fun j hj hj' hjk => by
    by_cases e : j = k
    · subst e; exact hp
    · exact h j hj hj' (by omega), hb⟩
set_option maxRecDepth 100000 in
set_option maxHeartbeats 3200000 in
theorem kallTy_any (l m : List Ty) (o_e : ∀ t ∈ l, ∀ u ∈ m, KEqTyV t u) : KEqTyL l m := by
  intro w A A' c c' hl hm
  have hr := hl.2.2.1
  have hr' := hm.2.2.1
  unfold Reach at hr hr'
  have HL := Lib.hid hl; have HM := Lib.hid hm; clear hl hm
  have O_e := Lib.hid o_e; clear o_e
  by_cases hne : l.length = m.length
  · have HE := Lib.hid hne
    have hb : ((l.length : Int) != (m.length : Int)) = false := by simp [hne]
    clear hne
    go_enter Try.func43, Try.ntmps43
    go_wp2_with fail
    go_loopw [15] (fun i wr => ∃ k : Nat, k ≤ l.length ∧ i = .int .i64 k ∧ KEqLoopTy w l m k wr) (fun i _ => l.length - (intOf i).toNat)
    case atStart => exact ⟨0, Nat.zero_le _, rfl, fun _ _ _ h => absurd h (Nat.not_lt_zero _), Below.refl _ _⟩
    case round =>
      obtain ⟨k, hk, rfl, hw⟩ := hrel
      by_cases hlt : k < l.length
      · have hlt' : k < m.length := by have := HE.out; omega
        have hi' : (k : Int) < (m.length : Int) := by omega
        obtain ⟨b, o, hA, A3, c3, A4, c4, e0, e1, e2, e3, e4, q0, q1, q2, q3, q4⟩ := Ty.at HL.out.2.2.2 k hlt
        obtain ⟨b', o', hA', A3', c3', A4', c4', e0', e1', e2', e3', e4', q0', q1', q2', q3', q4'⟩ := Ty.at HM.out.2.2.2 k hlt'
        subst hA hA'
        have hsub := Below.sub hw.2
        have f0 := hsub _ _ e0
        have g0 := hsub _ _ e0'
        have f1 := hsub _ _ e1
        have g1 := hsub _ _ e1'
        have f2 := hsub _ _ e2
        have g2 := hsub _ _ e2'
        have f3 := hsub _ _ e3
        have g3 := hsub _ _ e3'
        have f4 := hsub _ _ e4
        have g4 := hsub _ _ e4'
        have Q0 := Lib.hid q0; have Q0' := Lib.hid q0'
        have Q1 := Lib.hid q1; have Q1' := Lib.hid q1'
        have Q2 := Lib.hid q2; have Q2' := Lib.hid q2'
        have Q3 := Lib.hid q3; have Q3' := Lib.hid q3'
        have Q4 := Lib.hid q4; have Q4' := Lib.hid q4'
        have HB := Lib.hid hw.2
        have HN := Lib.hid hw.1
        clear hw hsub e0 e1 e2 e3 e4 e0' e1' e2' e3' e4' q0 q1 q2 q3 q4 q0' q1' q2' q3' q4'
        have T1 := List.getElem_mem hlt
        have T2 := List.getElem_mem hlt'
        have HT1 := Lib.hid T1; have HT2 := Lib.hid T2; clear T1 T2
        cases z0 : eqTy l[k] m[k] with
        | false =>
          have Z0 := Lib.hid z0; clear z0
          go_wp2_with fail
          go_still_tail 9, (by kernel_rfl)
          change wpList _ _ _ _ _ wr.drew
          go_wp2_with fail
          refine (O_e.out _ HT1.out _ HT2.out _ _ _ ((Ty.shut (w := w) (t := l[k]) Q0.out Q1.out Q2.out Q3.out Q4.out).sub (Below.sub HB.out.drew)) ((Ty.shut (w := w) (t := m[k]) Q0'.out Q1'.out Q2'.out Q3'.out Q4'.out).sub (Below.sub HB.out.drew))).mono ?_
          rintro e w1 he
          obtain ⟨rfl, hb1⟩ := he.bool Z0.out; clear he
          have B1 := Lib.hid (HB.out.drew.trans (hb1.mono HB.out.drew.size)); clear hb1
          go_wp2_with fail
          refine bodyPost_ret (results_tmp rfl _ _ _) rfl ⟨?_, B1.out⟩
          rw [eqTyL_not l m k hlt hlt' (Z0.out)]; rfl
        | true =>
          have Z0 := Lib.hid z0; clear z0
          go_wp2_with fail
          go_still_tail 9, (by kernel_rfl)
          change wpList _ _ _ _ _ wr.drew
          go_wp2_with fail
          refine (O_e.out _ HT1.out _ HT2.out _ _ _ ((Ty.shut (w := w) (t := l[k]) Q0.out Q1.out Q2.out Q3.out Q4.out).sub (Below.sub HB.out.drew)) ((Ty.shut (w := w) (t := m[k]) Q0'.out Q1'.out Q2'.out Q3'.out Q4'.out).sub (Below.sub HB.out.drew))).mono ?_
          rintro e w1 he
          obtain ⟨rfl, hb1⟩ := he.bool Z0.out; clear he
          have B1 := Lib.hid (HB.out.drew.trans (hb1.mono HB.out.drew.size)); clear hb1
          go_wp2_with fail
          go_roundw
          case rel => exact ⟨k + 1, by omega, by go_num, KEqLoopTy.next HN.out hlt hlt' (Z0.out) B1.out⟩
          case measure => simp [intOf]; omega
      · have hall := hw.1
        have HB := Lib.hid hw.2
        have HQ := Lib.hid (eqTyL_all l m HE.out (fun j h h' => hall j h h' (by omega)))
        clear hw hall
        go_wp2_with fail
        refine bodyPost_ret (results_tmp rfl _ _ _) rfl ⟨?_, HB.out⟩
        rw [HQ.out]; rfl
  · have hb : ((l.length : Int) != (m.length : Int)) = true := by simp; omega
    have HQ := Lib.hid (eqTyL_len l m hne)
    clear hne
    go_enter Try.func43, Try.ntmps43
    go_wp2_with fail
    refine bodyPost_ret (results_tmp rfl _ _ _) rfl ⟨?_, Below.refl _ _⟩
    rw [HQ.out]; rfl

theorem keqTy_size : ∀ (n : Nat) (t u : Ty), SizeOf.sizeOf t < n → KEqTyV t u
  | 0, _, _, h => absurd h (Nat.not_lt_zero _)
  | n + 1, .mk k p s xs ys, u, h => by
    simp only [Ty.mk.sizeOf_spec] at h
    exact ksameTy_any _ u
      (kallTy_any xs u.args (fun t ht v _ => keqTy_size n t v (by have := List.sizeOf_lt_of_mem ht; omega)))
      (kallTy_any ys u.res (fun t ht v _ => keqTy_size n t v (by have := List.sizeOf_lt_of_mem ht; omega)))
theorem keqTyV (t u : Ty) : KEqTyV t u := keqTy_size _ t u (Nat.lt_succ_self _)
theorem keqTyLV (l m : List Ty) : KEqTyL l m := kallTy_any l m (fun t _ u _ => keqTyV t u)
end Go.Proofs.Ytiecbgclkdlpkaa
