/-
  The walks of mortiseref7.Same, All, SameFields, SameDecl: they tell whether two are one. The conditions: what is looked at reads.
-/
import Derived.Test.YtiecbgclkdlpkaaEqs
import Derived.Test.YtiecbgclkdlpkaaAns
import Derived.Test.YtiecbgclkdlpkaaCut
import Derived.StillTailTactics
namespace Go.Proofs.Ytiecbgclkdlpkaa
open Go.RowKit
set_option linter.unusedVariables false
set_option linter.unusedSimpArgs false
attribute [local irreducible] wpStill

/-- What a look at two of them answers. -/
def EqTyV (t u : Ty) : Prop := ∀ (w : World) (vs us : List Value), Vals w t.d vs → Vals w u.d us → Calls Try.prog 27 #[.agg vs.toArray, .agg us.toArray] w (Ans w (.bool (eqTy t u)))
/-- What a look at two lists of them answers. -/
def EqTyL (l m : List Ty) : Prop := ∀ (w : World) (A A' : Option Addr) (c c' : Nat), SL w 5 (Ty.ds l) l.length A c → SL w 5 (Ty.ds m) m.length A' c' → Calls Try.prog 24 #[.slice A l.length c, .slice A' m.length c'] w (Ans w (.bool (eqTyL l m)))
/-- What a look at two lists of them answers. -/
def EqFldL (l m : List Fld) : Prop := ∀ (w : World) (A A' : Option Addr) (c c' : Nat), SL w 6 (Fld.ds l) l.length A c → SL w 6 (Fld.ds m) m.length A' c' → Calls Try.prog 35 #[.slice A l.length c, .slice A' m.length c'] w (Ans w (.bool (eqFldL l m)))
/-- What a look at two of them answers. -/
def EqDclV (t u : Dcl) : Prop := ∀ (w : World) (vs us : List Value), Vals w t.d vs → Vals w u.d us → Calls Try.prog 33 #[.agg vs.toArray, .agg us.toArray] w (Ans w (.bool (eqDcl t u)))
set_option maxRecDepth 100000 in
set_option maxHeartbeats 1600000 in
theorem sameTy_any (t u : Ty) (o_args : EqTyL t.args u.args) (o_res : EqTyL t.res u.res) : EqTyV t u := by
  intro w vs us hv hu
  obtain ⟨A3, c3, A4, c4, rfl, q0, q1, q2, q3, q4⟩ := Ty.opn hv
  obtain ⟨A3', c3', A4', c4', rfl, q0', q1', q2', q3', q4'⟩ := Ty.opn hu
  have hw2 : Below w.heap.size w ((w.alloc (.cells #[.int .i64 t.kind, .string t.pkg, .string t.name, .slice A3 t.args.length c3, .slice A4 t.res.length c4] 26)).alloc (.cells #[.int .i64 u.kind, .string u.pkg, .string u.name, .slice A3' u.args.length c3', .slice A4' u.res.length c4'] 26)) := ((Below.refl _ w).alloc (Nat.le_refl _) _).alloc (by simp) _
  have hA1 := alloc_old (alloc_at w (.cells #[.int .i64 t.kind, .string t.pkg, .string t.name, .slice A3 t.args.length c3, .slice A4 t.res.length c4] 26)) (.cells #[.int .i64 u.kind, .string u.pkg, .string u.name, .slice A3' u.args.length c3', .slice A4' u.res.length c4'] 26)
  have hA2 := alloc_at (w.alloc (.cells #[.int .i64 t.kind, .string t.pkg, .string t.name, .slice A3 t.args.length c3, .slice A4 t.res.length c4] 26)) (.cells #[.int .i64 u.kind, .string u.pkg, .string u.name, .slice A3' u.args.length c3', .slice A4' u.res.length c4'] 26)
  rw [World.size_alloc] at hA2
  have HW := Lib.hid hw2; have HA1 := Lib.hid hA1; have HA2 := Lib.hid hA2; clear hw2 hA1 hA2 hv hu
  have O_args := Lib.hid o_args; clear o_args
  have O_res := Lib.hid o_res; clear o_res
  have Q0 := Lib.hid q0; have Q0' := Lib.hid q0'; clear q0 q0'
  have Q1 := Lib.hid q1; have Q1' := Lib.hid q1'; clear q1 q1'
  have Q2 := Lib.hid q2; have Q2' := Lib.hid q2'; clear q2 q2'
  have Q3 := Lib.hid q3; have Q3' := Lib.hid q3'; clear q3 q3'
  have Q4 := Lib.hid q4; have Q4' := Lib.hid q4'; clear q4 q4'
  cases z0 : (t.kind == u.kind) with
  | false =>
    have Z0 := Lib.hid z0
    have y0 : (t.kind != u.kind) = true := by simp [bne, z0]
    go_enter Try.func27, Try.ntmps27
    go_wp2_with fail
    refine bodyPost_ret (results_tmp rfl _ _ _) rfl ⟨?_, HW.out⟩
    rw [eqTy_eq, Z0.out]; rfl
  | true =>
    have Z0 := Lib.hid z0
    have y0 : (t.kind != u.kind) = false := by simp [bne, z0]
    cases z1 : (t.pkg.toList == u.pkg.toList) with
    | false =>
      have Z1 := Lib.hid z1
      go_enter Try.func27, Try.ntmps27
      go_wp2_with fail
      refine bodyPost_ret (results_tmp rfl _ _ _) rfl ⟨?_, HW.out⟩
      rw [eqTy_eq, Z0.out, Z1.out]; rfl
    | true =>
      have Z1 := Lib.hid z1
      cases z2 : (t.name.toList == u.name.toList) with
      | false =>
        have Z2 := Lib.hid z2
        go_enter Try.func27, Try.ntmps27
        go_wp2_with fail
        refine bodyPost_ret (results_tmp rfl _ _ _) rfl ⟨?_, HW.out⟩
        rw [eqTy_eq, Z0.out, Z1.out, Z2.out]; rfl
      | true =>
        have Z2 := Lib.hid z2
        cases z3 : eqTyL t.args u.args with
        | false =>
          have Z3 := Lib.hid z3
          clear z3
          go_enter Try.func27, Try.ntmps27
          go_wp2_with fail
          refine (O_args.out _ A3 A3' c3 c3' (Q3.out.sub (Below.sub HW.out)) (Q3'.out.sub (Below.sub HW.out))).mono ?_
          rintro e w1 he
          obtain ⟨rfl, hb1⟩ := he.bool Z3.out; clear he
          have d1_4 := Below.sub hb1 _ _ ((cell_at HA1.out 4).trans rfl : _ = some (.slice A4 t.res.length c4))
          have g1_4 := Below.sub hb1 _ _ ((cell_at HA2.out 4).trans rfl : _ = some (.slice A4' u.res.length c4'))
          have B1 := Lib.hid (HW.out.trans (hb1.mono HW.out.size)); clear hb1
          go_wp2_with fail
          refine bodyPost_ret (results_tmp rfl _ _ _) rfl ⟨?_, B1.out⟩
          rw [eqTy_eq, Z0.out, Z1.out, Z2.out, Z3.out]; rfl
        | true =>
          have Z3 := Lib.hid z3
          clear z3
          cases z4 : eqTyL t.res u.res with
          | false =>
            have Z4 := Lib.hid z4
            clear z4
            go_enter Try.func27, Try.ntmps27
            go_wp2_with fail
            refine (O_args.out _ A3 A3' c3 c3' (Q3.out.sub (Below.sub HW.out)) (Q3'.out.sub (Below.sub HW.out))).mono ?_
            rintro e w1 he
            obtain ⟨rfl, hb1⟩ := he.bool Z3.out; clear he
            have d1_4 := Below.sub hb1 _ _ ((cell_at HA1.out 4).trans rfl : _ = some (.slice A4 t.res.length c4))
            have g1_4 := Below.sub hb1 _ _ ((cell_at HA2.out 4).trans rfl : _ = some (.slice A4' u.res.length c4'))
            have B1 := Lib.hid (HW.out.trans (hb1.mono HW.out.size)); clear hb1
            go_wp2_with fail
            refine (O_res.out _ A4 A4' c4 c4' (Q4.out.sub (Below.sub B1.out)) (Q4'.out.sub (Below.sub B1.out))).mono ?_
            rintro e w2 he
            obtain ⟨rfl, hb2⟩ := he.bool Z4.out; clear he
            clear d1_4 g1_4
            have B2 := Lib.hid (B1.out.trans (hb2.mono B1.out.size)); clear hb2
            go_wp2_with fail
            refine bodyPost_ret (results_tmp rfl _ _ _) rfl ⟨?_, B2.out⟩
            rw [eqTy_eq, Z0.out, Z1.out, Z2.out, Z3.out, Z4.out]; rfl
          | true =>
            have Z4 := Lib.hid z4
            clear z4
            go_enter Try.func27, Try.ntmps27
            go_wp2_with fail
            refine (O_args.out _ A3 A3' c3 c3' (Q3.out.sub (Below.sub HW.out)) (Q3'.out.sub (Below.sub HW.out))).mono ?_
            rintro e w1 he
            obtain ⟨rfl, hb1⟩ := he.bool Z3.out; clear he
            have d1_4 := Below.sub hb1 _ _ ((cell_at HA1.out 4).trans rfl : _ = some (.slice A4 t.res.length c4))
            have g1_4 := Below.sub hb1 _ _ ((cell_at HA2.out 4).trans rfl : _ = some (.slice A4' u.res.length c4'))
            have B1 := Lib.hid (HW.out.trans (hb1.mono HW.out.size)); clear hb1
            go_wp2_with fail
            refine (O_res.out _ A4 A4' c4 c4' (Q4.out.sub (Below.sub B1.out)) (Q4'.out.sub (Below.sub B1.out))).mono ?_
            rintro e w2 he
            obtain ⟨rfl, hb2⟩ := he.bool Z4.out; clear he
            clear d1_4 g1_4
            have B2 := Lib.hid (B1.out.trans (hb2.mono B1.out.size)); clear hb2
            go_wp2_with fail
            refine bodyPost_ret (results_tmp rfl _ _ _) rfl ⟨?_, B2.out⟩
            rw [eqTy_eq, Z0.out, Z1.out, Z2.out, Z3.out, Z4.out]; rfl

def EqLoopTy (W : World) (l m : List Ty) (k : Nat) (wr : World) : Prop := (∀ j (h : j < l.length) (h' : j < m.length), j < k → eqTy l[j] m[j] = true) ∧ Below W.heap.size W wr
theorem EqLoopTy.next {W w2 : World} {l m : List Ty} {k : Nat} (h : ∀ j (h : j < l.length) (h' : j < m.length), j < k → eqTy l[j] m[j] = true) (hk : k < l.length) (hk' : k < m.length) (hp : eqTy l[k] m[k] = true) (hb : Below W.heap.size W w2) : EqLoopTy W l m (k + 1) w2 :=
  ⟨fun j hj hj' hjk => by
    by_cases e : j = k
    · subst e; exact hp
    · exact h j hj hj' (by omega), hb⟩
set_option maxRecDepth 100000 in
set_option maxHeartbeats 3200000 in
theorem allTy_any (l m : List Ty) (o_e : ∀ t ∈ l, ∀ u ∈ m, EqTyV t u) : EqTyL l m := by
  intro w A A' c c' hl hm
  have hr := hl.2.2.1
  have hr' := hm.2.2.1
  unfold Reach at hr hr'
  have HL := Lib.hid hl; have HM := Lib.hid hm; clear hl hm
  have O_e := Lib.hid o_e; clear o_e
  by_cases hne : l.length = m.length
  · have HE := Lib.hid hne
    have hb : ((l.length : Int) != (m.length : Int)) = false := by simp [hne]
    clear hne
    go_enter Try.func24, Try.ntmps24
    go_wp2_with fail
    go_loopw [5] (fun i wr => ∃ k : Nat, k ≤ l.length ∧ i = .int .i64 k ∧ EqLoopTy w l m k wr) (fun i _ => l.length - (intOf i).toNat)
    case atStart => exact ⟨0, Nat.zero_le _, rfl, fun _ _ _ h => absurd h (Nat.not_lt_zero _), Below.refl _ _⟩
    case round =>
      obtain ⟨k, hk, rfl, hw⟩ := hrel
      by_cases hlt : k < l.length
      · have hlt' : k < m.length := by have := HE.out; omega
        have hi' : (k : Int) < (m.length : Int) := by omega
        obtain ⟨b, o, hA, A3, c3, A4, c4, e0, e1, e2, e3, e4, q0, q1, q2, q3, q4⟩ := Ty.at HL.out.2.2.2 k hlt
        obtain ⟨b', o', hA', A3', c3', A4', c4', e0', e1', e2', e3', e4', q0', q1', q2', q3', q4'⟩ := Ty.at HM.out.2.2.2 k hlt'
        subst hA hA'
        have hsub := Below.sub hw.2
        have f0 := hsub _ _ e0
        have g0 := hsub _ _ e0'
        have f1 := hsub _ _ e1
        have g1 := hsub _ _ e1'
        have f2 := hsub _ _ e2
        have g2 := hsub _ _ e2'
        have f3 := hsub _ _ e3
        have g3 := hsub _ _ e3'
        have f4 := hsub _ _ e4
        have g4 := hsub _ _ e4'
        have Q0 := Lib.hid q0; have Q0' := Lib.hid q0'
        have Q1 := Lib.hid q1; have Q1' := Lib.hid q1'
        have Q2 := Lib.hid q2; have Q2' := Lib.hid q2'
        have Q3 := Lib.hid q3; have Q3' := Lib.hid q3'
        have Q4 := Lib.hid q4; have Q4' := Lib.hid q4'
        have HB := Lib.hid hw.2
        have HN := Lib.hid hw.1
        clear hw hsub e0 e1 e2 e3 e4 e0' e1' e2' e3' e4' q0 q1 q2 q3 q4 q0' q1' q2' q3' q4'
        have T1 := List.getElem_mem hlt
        have T2 := List.getElem_mem hlt'
        have HT1 := Lib.hid T1; have HT2 := Lib.hid T2; clear T1 T2
        cases z0 : eqTy l[k] m[k] with
        | false =>
          have Z0 := Lib.hid z0; clear z0
          go_wp2_with fail
          go_still_tail 8, (by kernel_rfl)
          change wpList _ _ _ _ _ wr.drew
          go_wp2_with fail
          refine (O_e.out _ HT1.out _ HT2.out _ _ _ ((Ty.shut (w := w) (t := l[k]) Q0.out Q1.out Q2.out Q3.out Q4.out).sub (Below.sub HB.out.drew)) ((Ty.shut (w := w) (t := m[k]) Q0'.out Q1'.out Q2'.out Q3'.out Q4'.out).sub (Below.sub HB.out.drew))).mono ?_
          rintro e w1 he
          obtain ⟨rfl, hb1⟩ := he.bool Z0.out; clear he
          have B1 := Lib.hid (HB.out.drew.trans (hb1.mono HB.out.drew.size)); clear hb1
          go_wp2_with fail
          refine bodyPost_ret (results_tmp rfl _ _ _) rfl ⟨?_, B1.out⟩
          rw [eqTyL_not l m k hlt hlt' (Z0.out)]; rfl
        | true =>
          have Z0 := Lib.hid z0; clear z0
          go_wp2_with fail
          go_still_tail 8, (by kernel_rfl)
          change wpList _ _ _ _ _ wr.drew
          go_wp2_with fail
          refine (O_e.out _ HT1.out _ HT2.out _ _ _ ((Ty.shut (w := w) (t := l[k]) Q0.out Q1.out Q2.out Q3.out Q4.out).sub (Below.sub HB.out.drew)) ((Ty.shut (w := w) (t := m[k]) Q0'.out Q1'.out Q2'.out Q3'.out Q4'.out).sub (Below.sub HB.out.drew))).mono ?_
          rintro e w1 he
          obtain ⟨rfl, hb1⟩ := he.bool Z0.out; clear he
          have B1 := Lib.hid (HB.out.drew.trans (hb1.mono HB.out.drew.size)); clear hb1
          go_wp2_with fail
          go_roundw
          case rel => exact ⟨k + 1, by omega, by go_num, EqLoopTy.next HN.out hlt hlt' (Z0.out) B1.out⟩
          case measure => simp [intOf]; omega
      · have hall := hw.1
        have HB := Lib.hid hw.2
        have HQ := Lib.hid (eqTyL_all l m HE.out (fun j h h' => hall j h h' (by omega)))
        clear hw hall
        go_wp2_with fail
        refine bodyPost_ret (results_tmp rfl _ _ _) rfl ⟨?_, HB.out⟩
        rw [HQ.out]; rfl
  · have hb : ((l.length : Int) != (m.length : Int)) = true := by simp; omega
    have HQ := Lib.hid (eqTyL_len l m hne)
    clear hne
    go_enter Try.func24, Try.ntmps24
    go_wp2_with fail
    refine bodyPost_ret (results_tmp rfl _ _ _) rfl ⟨?_, Below.refl _ _⟩
    rw [HQ.out]; rfl

theorem eqTy_size : ∀ (n : Nat) (t u : Ty), SizeOf.sizeOf t < n → EqTyV t u
  | 0, _, _, h => absurd h (Nat.not_lt_zero _)
  | n + 1, .mk k p s xs ys, u, h => by
    simp only [Ty.mk.sizeOf_spec] at h
    exact sameTy_any _ u
      (allTy_any xs u.args (fun t ht v _ => eqTy_size n t v (by have := List.sizeOf_lt_of_mem ht; omega)))
      (allTy_any ys u.res (fun t ht v _ => eqTy_size n t v (by have := List.sizeOf_lt_of_mem ht; omega)))
theorem eqTyV (t u : Ty) : EqTyV t u := eqTy_size _ t u (Nat.lt_succ_self _)
theorem eqTyLV (l m : List Ty) : EqTyL l m := allTy_any l m (fun t _ u _ => eqTyV t u)

def EqLoopFld (W : World) (l m : List Fld) (k : Nat) (wr : World) : Prop := (∀ j (h : j < l.length) (h' : j < m.length), j < k → eqFld l[j] m[j] = true) ∧ Below W.heap.size W wr
theorem EqLoopFld.next {W w2 : World} {l m : List Fld} {k : Nat} (h : ∀ j (h : j < l.length) (h' : j < m.length), j < k → eqFld l[j] m[j] = true) (hk : k < l.length) (hk' : k < m.length) (hp : eqFld l[k] m[k] = true) (hb : Below W.heap.size W w2) : EqLoopFld W l m (k + 1) w2 :=
  ⟨fun j hj hj' hjk => by
    by_cases e : j = k
    · subst e; exact hp
    · exact h j hj hj' (by omega), hb⟩
set_option maxRecDepth 100000 in
set_option maxHeartbeats 3200000 in
theorem sameFields_any (l m : List Fld) (o_type : ∀ t ∈ l, ∀ u ∈ m, EqTyV t.type u.type) : EqFldL l m := by
  intro w A A' c c' hl hm
  have hr := hl.2.2.1
  have hr' := hm.2.2.1
  unfold Reach at hr hr'
  have HL := Lib.hid hl; have HM := Lib.hid hm; clear hl hm
  have O_type := Lib.hid o_type; clear o_type
  by_cases hne : l.length = m.length
  · have HE := Lib.hid hne
    have hb : ((l.length : Int) != (m.length : Int)) = false := by simp [hne]
    clear hne
    go_enter Try.func35, Try.ntmps35
    go_wp2_with fail
    go_loopw [5] (fun i wr => ∃ k : Nat, k ≤ l.length ∧ i = .int .i64 k ∧ EqLoopFld w l m k wr) (fun i _ => l.length - (intOf i).toNat)
    case atStart => exact ⟨0, Nat.zero_le _, rfl, fun _ _ _ h => absurd h (Nat.not_lt_zero _), Below.refl _ _⟩
    case round =>
      obtain ⟨k, hk, rfl, hw⟩ := hrel
      by_cases hlt : k < l.length
      · have hlt' : k < m.length := by have := HE.out; omega
        have hi' : (k : Int) < (m.length : Int) := by omega
        obtain ⟨b, o, hA, A4, c4, A5, c5, e0, e1, e2, e3, e4, e5, q0, q1, q2, q3, q4, q5⟩ := Fld.at HL.out.2.2.2 k hlt
        obtain ⟨b', o', hA', A4', c4', A5', c5', e0', e1', e2', e3', e4', e5', q0', q1', q2', q3', q4', q5'⟩ := Fld.at HM.out.2.2.2 k hlt'
        subst hA hA'
        have hsub := Below.sub hw.2
        have f0 := hsub _ _ e0
        have g0 := hsub _ _ e0'
        have f1 := hsub _ _ e1
        have g1 := hsub _ _ e1'
        have f2 := hsub _ _ e2
        have g2 := hsub _ _ e2'
        have f3 := hsub _ _ e3
        have g3 := hsub _ _ e3'
        have f4 := hsub _ _ e4
        have g4 := hsub _ _ e4'
        have f5 := hsub _ _ e5
        have g5 := hsub _ _ e5'
        have Q0 := Lib.hid q0; have Q0' := Lib.hid q0'
        have Q1 := Lib.hid q1; have Q1' := Lib.hid q1'
        have Q2 := Lib.hid q2; have Q2' := Lib.hid q2'
        have Q3 := Lib.hid q3; have Q3' := Lib.hid q3'
        have Q4 := Lib.hid q4; have Q4' := Lib.hid q4'
        have Q5 := Lib.hid q5; have Q5' := Lib.hid q5'
        have HB := Lib.hid hw.2
        have HN := Lib.hid hw.1
        clear hw hsub e0 e1 e2 e3 e4 e5 e0' e1' e2' e3' e4' e5' q0 q1 q2 q3 q4 q5 q0' q1' q2' q3' q4' q5'
        have T1 := List.getElem_mem hlt
        have T2 := List.getElem_mem hlt'
        have HT1 := Lib.hid T1; have HT2 := Lib.hid T2; clear T1 T2
        cases z0 : (l[k].name.toList == m[k].name.toList) with
        | false =>
          have Z0 := Lib.hid z0
          go_wp2_with fail
          go_still_tail 22, (by kernel_rfl)
          change wpList _ _ _ _ _ wr.drew
          go_wp2_with fail
          refine bodyPost_ret (results_tmp rfl _ _ _) rfl ⟨?_, HB.out.drew⟩
          rw [eqFldL_not l m k hlt hlt' (by rw [eqFld_eq, Z0.out]; rfl)]; rfl
        | true =>
          have Z0 := Lib.hid z0
          cases z1 : eqTy l[k].type m[k].type with
          | false =>
            have Z1 := Lib.hid z1
            clear z1
            go_wp2_with fail
            go_still_tail 22, (by kernel_rfl)
            change wpList _ _ _ _ _ wr.drew
            go_wp2_with fail
            refine (O_type.out _ HT1.out _ HT2.out _ _ _ ((Ty.shut (w := w) (t := (l[k]).type) Q1.out Q2.out Q3.out Q4.out Q5.out).sub (Below.sub HB.out.drew)) ((Ty.shut (w := w) (t := (m[k]).type) Q1'.out Q2'.out Q3'.out Q4'.out Q5'.out).sub (Below.sub HB.out.drew))).mono ?_
            rintro e w1 he
            obtain ⟨rfl, hb1⟩ := he.bool Z1.out; clear he
            have d1_2 := Below.sub hb1 _ _ f2
            have k1_2 := Below.sub hb1 _ _ g2
            have d1_3 := Below.sub hb1 _ _ f3
            have k1_3 := Below.sub hb1 _ _ g3
            have d1_4 := Below.sub hb1 _ _ f4
            have k1_4 := Below.sub hb1 _ _ g4
            have d1_5 := Below.sub hb1 _ _ f5
            have k1_5 := Below.sub hb1 _ _ g5
            have B1 := Lib.hid (HB.out.drew.trans (hb1.mono HB.out.drew.size)); clear hb1
            go_wp2_with fail
            refine bodyPost_ret (results_tmp rfl _ _ _) rfl ⟨?_, B1.out⟩
            rw [eqFldL_not l m k hlt hlt' (by rw [eqFld_eq, Z0.out, Z1.out]; rfl)]; rfl
          | true =>
            have Z1 := Lib.hid z1
            clear z1
            go_wp2_with fail
            go_still_tail 22, (by kernel_rfl)
            change wpList _ _ _ _ _ wr.drew
            go_wp2_with fail
            refine (O_type.out _ HT1.out _ HT2.out _ _ _ ((Ty.shut (w := w) (t := (l[k]).type) Q1.out Q2.out Q3.out Q4.out Q5.out).sub (Below.sub HB.out.drew)) ((Ty.shut (w := w) (t := (m[k]).type) Q1'.out Q2'.out Q3'.out Q4'.out Q5'.out).sub (Below.sub HB.out.drew))).mono ?_
            rintro e w1 he
            obtain ⟨rfl, hb1⟩ := he.bool Z1.out; clear he
            have d1_2 := Below.sub hb1 _ _ f2
            have k1_2 := Below.sub hb1 _ _ g2
            have d1_3 := Below.sub hb1 _ _ f3
            have k1_3 := Below.sub hb1 _ _ g3
            have d1_4 := Below.sub hb1 _ _ f4
            have k1_4 := Below.sub hb1 _ _ g4
            have d1_5 := Below.sub hb1 _ _ f5
            have k1_5 := Below.sub hb1 _ _ g5
            have B1 := Lib.hid (HB.out.drew.trans (hb1.mono HB.out.drew.size)); clear hb1
            go_wp2_with fail
            go_roundw
            case rel => exact ⟨k + 1, by omega, by go_num, EqLoopFld.next HN.out hlt hlt' (by rw [eqFld_eq, Z0.out, Z1.out]; rfl) B1.out⟩
            case measure => simp [intOf]; omega
      · have hall := hw.1
        have HB := Lib.hid hw.2
        have HQ := Lib.hid (eqFldL_all l m HE.out (fun j h h' => hall j h h' (by omega)))
        clear hw hall
        go_wp2_with fail
        refine bodyPost_ret (results_tmp rfl _ _ _) rfl ⟨?_, HB.out⟩
        rw [HQ.out]; rfl
  · have hb : ((l.length : Int) != (m.length : Int)) = true := by simp; omega
    have HQ := Lib.hid (eqFldL_len l m hne)
    clear hne
    go_enter Try.func35, Try.ntmps35
    go_wp2_with fail
    refine bodyPost_ret (results_tmp rfl _ _ _) rfl ⟨?_, Below.refl _ _⟩
    rw [HQ.out]; rfl

theorem eqFldLV (l m : List Fld) : EqFldL l m := sameFields_any l m (fun t _ u _ => eqTyV t.type u.type)

set_option maxRecDepth 100000 in
set_option maxHeartbeats 1600000 in
theorem sameDecl_any (t u : Dcl) (o_type : EqTyV t.type u.type) (o_fields : EqFldL t.fields u.fields) : EqDclV t u := by
  intro w vs us hv hu
  obtain ⟨A7, c7, A8, c8, A9, c9, rfl, q0, q1, q2, q3, q4, q5, q6, q7, q8, q9⟩ := Dcl.opn hv
  obtain ⟨A7', c7', A8', c8', A9', c9', rfl, q0', q1', q2', q3', q4', q5', q6', q7', q8', q9'⟩ := Dcl.opn hu
  have hw2 : Below w.heap.size w ((w.alloc (.cells #[.int .i64 t.kind, .string t.name, .string t.of, .int .i64 t.value, .int .i64 t.type.kind, .string t.type.pkg, .string t.type.name, .slice A7 t.type.args.length c7, .slice A8 t.type.res.length c8, .slice A9 t.fields.length c9] 46)).alloc (.cells #[.int .i64 u.kind, .string u.name, .string u.of, .int .i64 u.value, .int .i64 u.type.kind, .string u.type.pkg, .string u.type.name, .slice A7' u.type.args.length c7', .slice A8' u.type.res.length c8', .slice A9' u.fields.length c9'] 46)) := ((Below.refl _ w).alloc (Nat.le_refl _) _).alloc (by simp) _
  have hA1 := alloc_old (alloc_at w (.cells #[.int .i64 t.kind, .string t.name, .string t.of, .int .i64 t.value, .int .i64 t.type.kind, .string t.type.pkg, .string t.type.name, .slice A7 t.type.args.length c7, .slice A8 t.type.res.length c8, .slice A9 t.fields.length c9] 46)) (.cells #[.int .i64 u.kind, .string u.name, .string u.of, .int .i64 u.value, .int .i64 u.type.kind, .string u.type.pkg, .string u.type.name, .slice A7' u.type.args.length c7', .slice A8' u.type.res.length c8', .slice A9' u.fields.length c9'] 46)
  have hA2 := alloc_at (w.alloc (.cells #[.int .i64 t.kind, .string t.name, .string t.of, .int .i64 t.value, .int .i64 t.type.kind, .string t.type.pkg, .string t.type.name, .slice A7 t.type.args.length c7, .slice A8 t.type.res.length c8, .slice A9 t.fields.length c9] 46)) (.cells #[.int .i64 u.kind, .string u.name, .string u.of, .int .i64 u.value, .int .i64 u.type.kind, .string u.type.pkg, .string u.type.name, .slice A7' u.type.args.length c7', .slice A8' u.type.res.length c8', .slice A9' u.fields.length c9'] 46)
  rw [World.size_alloc] at hA2
  have HW := Lib.hid hw2; have HA1 := Lib.hid hA1; have HA2 := Lib.hid hA2; clear hw2 hA1 hA2 hv hu
  have O_type := Lib.hid o_type; clear o_type
  have O_fields := Lib.hid o_fields; clear o_fields
  have Q0 := Lib.hid q0; have Q0' := Lib.hid q0'; clear q0 q0'
  have Q1 := Lib.hid q1; have Q1' := Lib.hid q1'; clear q1 q1'
  have Q2 := Lib.hid q2; have Q2' := Lib.hid q2'; clear q2 q2'
  have Q3 := Lib.hid q3; have Q3' := Lib.hid q3'; clear q3 q3'
  have Q4 := Lib.hid q4; have Q4' := Lib.hid q4'; clear q4 q4'
  have Q5 := Lib.hid q5; have Q5' := Lib.hid q5'; clear q5 q5'
  have Q6 := Lib.hid q6; have Q6' := Lib.hid q6'; clear q6 q6'
  have Q7 := Lib.hid q7; have Q7' := Lib.hid q7'; clear q7 q7'
  have Q8 := Lib.hid q8; have Q8' := Lib.hid q8'; clear q8 q8'
  have Q9 := Lib.hid q9; have Q9' := Lib.hid q9'; clear q9 q9'
  cases z0 : (t.kind == u.kind) with
  | false =>
    have Z0 := Lib.hid z0
    have y0 : (t.kind != u.kind) = true := by simp [bne, z0]
    go_enter Try.func33, Try.ntmps33
    go_wp2_with fail
    refine bodyPost_ret (results_tmp rfl _ _ _) rfl ⟨?_, HW.out⟩
    rw [eqDcl_eq, Z0.out]; rfl
  | true =>
    have Z0 := Lib.hid z0
    have y0 : (t.kind != u.kind) = false := by simp [bne, z0]
    cases z1 : (t.name.toList == u.name.toList) with
    | false =>
      have Z1 := Lib.hid z1
      go_enter Try.func33, Try.ntmps33
      go_wp2_with fail
      refine bodyPost_ret (results_tmp rfl _ _ _) rfl ⟨?_, HW.out⟩
      rw [eqDcl_eq, Z0.out, Z1.out]; rfl
    | true =>
      have Z1 := Lib.hid z1
      cases z2 : (t.of.toList == u.of.toList) with
      | false =>
        have Z2 := Lib.hid z2
        go_enter Try.func33, Try.ntmps33
        go_wp2_with fail
        refine bodyPost_ret (results_tmp rfl _ _ _) rfl ⟨?_, HW.out⟩
        rw [eqDcl_eq, Z0.out, Z1.out, Z2.out]; rfl
      | true =>
        have Z2 := Lib.hid z2
        cases z3 : (t.value == u.value) with
        | false =>
          have Z3 := Lib.hid z3
          have y3 : (t.value != u.value) = true := by simp [bne, z3]
          go_enter Try.func33, Try.ntmps33
          go_wp2_with fail
          refine bodyPost_ret (results_tmp rfl _ _ _) rfl ⟨?_, HW.out⟩
          rw [eqDcl_eq, Z0.out, Z1.out, Z2.out, Z3.out]; rfl
        | true =>
          have Z3 := Lib.hid z3
          have y3 : (t.value != u.value) = false := by simp [bne, z3]
          cases z4 : eqTy t.type u.type with
          | false =>
            have Z4 := Lib.hid z4
            clear z4
            go_enter Try.func33, Try.ntmps33
            go_wp2_with fail
            refine (O_type.out _ _ _ ((Ty.shut (w := w) (t := t.type) Q4.out Q5.out Q6.out Q7.out Q8.out).sub (Below.sub HW.out)) ((Ty.shut (w := w) (t := u.type) Q4'.out Q5'.out Q6'.out Q7'.out Q8'.out).sub (Below.sub HW.out))).mono ?_
            rintro e w1 he
            obtain ⟨rfl, hb1⟩ := he.bool Z4.out; clear he
            have d1_5 := Below.sub hb1 _ _ ((cell_at HA1.out 5).trans rfl : _ = some (.string t.type.pkg))
            have g1_5 := Below.sub hb1 _ _ ((cell_at HA2.out 5).trans rfl : _ = some (.string u.type.pkg))
            have d1_6 := Below.sub hb1 _ _ ((cell_at HA1.out 6).trans rfl : _ = some (.string t.type.name))
            have g1_6 := Below.sub hb1 _ _ ((cell_at HA2.out 6).trans rfl : _ = some (.string u.type.name))
            have d1_7 := Below.sub hb1 _ _ ((cell_at HA1.out 7).trans rfl : _ = some (.slice A7 t.type.args.length c7))
            have g1_7 := Below.sub hb1 _ _ ((cell_at HA2.out 7).trans rfl : _ = some (.slice A7' u.type.args.length c7'))
            have d1_8 := Below.sub hb1 _ _ ((cell_at HA1.out 8).trans rfl : _ = some (.slice A8 t.type.res.length c8))
            have g1_8 := Below.sub hb1 _ _ ((cell_at HA2.out 8).trans rfl : _ = some (.slice A8' u.type.res.length c8'))
            have d1_9 := Below.sub hb1 _ _ ((cell_at HA1.out 9).trans rfl : _ = some (.slice A9 t.fields.length c9))
            have g1_9 := Below.sub hb1 _ _ ((cell_at HA2.out 9).trans rfl : _ = some (.slice A9' u.fields.length c9'))
            have B1 := Lib.hid (HW.out.trans (hb1.mono HW.out.size)); clear hb1
            go_wp2_with fail
            refine bodyPost_ret (results_tmp rfl _ _ _) rfl ⟨?_, B1.out⟩
            rw [eqDcl_eq, Z0.out, Z1.out, Z2.out, Z3.out, Z4.out]; rfl
          | true =>
            have Z4 := Lib.hid z4
            clear z4
            cases z5 : eqFldL t.fields u.fields with
            | false =>
              have Z5 := Lib.hid z5
              clear z5
              go_enter Try.func33, Try.ntmps33
              go_wp2_with fail
              refine (O_type.out _ _ _ ((Ty.shut (w := w) (t := t.type) Q4.out Q5.out Q6.out Q7.out Q8.out).sub (Below.sub HW.out)) ((Ty.shut (w := w) (t := u.type) Q4'.out Q5'.out Q6'.out Q7'.out Q8'.out).sub (Below.sub HW.out))).mono ?_
              rintro e w1 he
              obtain ⟨rfl, hb1⟩ := he.bool Z4.out; clear he
              have d1_5 := Below.sub hb1 _ _ ((cell_at HA1.out 5).trans rfl : _ = some (.string t.type.pkg))
              have g1_5 := Below.sub hb1 _ _ ((cell_at HA2.out 5).trans rfl : _ = some (.string u.type.pkg))
              have d1_6 := Below.sub hb1 _ _ ((cell_at HA1.out 6).trans rfl : _ = some (.string t.type.name))
              have g1_6 := Below.sub hb1 _ _ ((cell_at HA2.out 6).trans rfl : _ = some (.string u.type.name))
              have d1_7 := Below.sub hb1 _ _ ((cell_at HA1.out 7).trans rfl : _ = some (.slice A7 t.type.args.length c7))
              have g1_7 := Below.sub hb1 _ _ ((cell_at HA2.out 7).trans rfl : _ = some (.slice A7' u.type.args.length c7'))
              have d1_8 := Below.sub hb1 _ _ ((cell_at HA1.out 8).trans rfl : _ = some (.slice A8 t.type.res.length c8))
              have g1_8 := Below.sub hb1 _ _ ((cell_at HA2.out 8).trans rfl : _ = some (.slice A8' u.type.res.length c8'))
              have d1_9 := Below.sub hb1 _ _ ((cell_at HA1.out 9).trans rfl : _ = some (.slice A9 t.fields.length c9))
              have g1_9 := Below.sub hb1 _ _ ((cell_at HA2.out 9).trans rfl : _ = some (.slice A9' u.fields.length c9'))
              have B1 := Lib.hid (HW.out.trans (hb1.mono HW.out.size)); clear hb1
              go_wp2_with fail
              refine (O_fields.out _ A9 A9' c9 c9' (Q9.out.sub (Below.sub B1.out)) (Q9'.out.sub (Below.sub B1.out))).mono ?_
              rintro e w2 he
              obtain ⟨rfl, hb2⟩ := he.bool Z5.out; clear he
              clear d1_5 g1_5 d1_6 g1_6 d1_7 g1_7 d1_8 g1_8 d1_9 g1_9
              have B2 := Lib.hid (B1.out.trans (hb2.mono B1.out.size)); clear hb2
              go_wp2_with fail
              refine bodyPost_ret (results_tmp rfl _ _ _) rfl ⟨?_, B2.out⟩
              rw [eqDcl_eq, Z0.out, Z1.out, Z2.out, Z3.out, Z4.out, Z5.out]; rfl
            | true =>
              have Z5 := Lib.hid z5
              clear z5
              go_enter Try.func33, Try.ntmps33
              go_wp2_with fail
              refine (O_type.out _ _ _ ((Ty.shut (w := w) (t := t.type) Q4.out Q5.out Q6.out Q7.out Q8.out).sub (Below.sub HW.out)) ((Ty.shut (w := w) (t := u.type) Q4'.out Q5'.out Q6'.out Q7'.out Q8'.out).sub (Below.sub HW.out))).mono ?_
              rintro e w1 he
              obtain ⟨rfl, hb1⟩ := he.bool Z4.out; clear he
              have d1_5 := Below.sub hb1 _ _ ((cell_at HA1.out 5).trans rfl : _ = some (.string t.type.pkg))
              have g1_5 := Below.sub hb1 _ _ ((cell_at HA2.out 5).trans rfl : _ = some (.string u.type.pkg))
              have d1_6 := Below.sub hb1 _ _ ((cell_at HA1.out 6).trans rfl : _ = some (.string t.type.name))
              have g1_6 := Below.sub hb1 _ _ ((cell_at HA2.out 6).trans rfl : _ = some (.string u.type.name))
              have d1_7 := Below.sub hb1 _ _ ((cell_at HA1.out 7).trans rfl : _ = some (.slice A7 t.type.args.length c7))
              have g1_7 := Below.sub hb1 _ _ ((cell_at HA2.out 7).trans rfl : _ = some (.slice A7' u.type.args.length c7'))
              have d1_8 := Below.sub hb1 _ _ ((cell_at HA1.out 8).trans rfl : _ = some (.slice A8 t.type.res.length c8))
              have g1_8 := Below.sub hb1 _ _ ((cell_at HA2.out 8).trans rfl : _ = some (.slice A8' u.type.res.length c8'))
              have d1_9 := Below.sub hb1 _ _ ((cell_at HA1.out 9).trans rfl : _ = some (.slice A9 t.fields.length c9))
              have g1_9 := Below.sub hb1 _ _ ((cell_at HA2.out 9).trans rfl : _ = some (.slice A9' u.fields.length c9'))
              have B1 := Lib.hid (HW.out.trans (hb1.mono HW.out.size)); clear hb1
              go_wp2_with fail
              refine (O_fields.out _ A9 A9' c9 c9' (Q9.out.sub (Below.sub B1.out)) (Q9'.out.sub (Below.sub B1.out))).mono ?_
              rintro e w2 he
              obtain ⟨rfl, hb2⟩ := he.bool Z5.out; clear he
              clear d1_5 g1_5 d1_6 g1_6 d1_7 g1_7 d1_8 g1_8 d1_9 g1_9
              have B2 := Lib.hid (B1.out.trans (hb2.mono B1.out.size)); clear hb2
              go_wp2_with fail
              refine bodyPost_ret (results_tmp rfl _ _ _) rfl ⟨?_, B2.out⟩
              rw [eqDcl_eq, Z0.out, Z1.out, Z2.out, Z3.out, Z4.out, Z5.out]; rfl

theorem eqDclV (t u : Dcl) : EqDclV t u := sameDecl_any t u (eqTyV _ _) (eqFldLV _ _)

end Go.Proofs.Ytiecbgclkdlpkaa
