/-
  The walks of mortiseref8.SameExprs, SameStats, SameFunc, SameFuncs: they tell whether two are one. The conditions: what is looked at reads.
-/
import Derived.Test.YtghnaaahkbnhlaaSame7
namespace Go.Proofs.Ytghnaaahkbnhlaa
open Go.RowKit
set_option linter.unusedVariables false
set_option linter.unusedSimpArgs false
attribute [local irreducible] wpStill

/-- What a look at two lists of them answers. -/
def EqExL (l m : List Ex) : Prop := ∀ (w : World) (A A' : Option Addr) (c c' : Nat), SL w 4 (Ex.ds l) l.length A c → SL w 4 (Ex.ds m) m.length A' c' → Calls Try.prog 107 #[.slice A l.length c, .slice A' m.length c'] w (Ans w (.bool (eqExL l m)))
/-- What a look at two lists of them answers. -/
def EqStL (l m : List St) : Prop := ∀ (w : World) (A A' : Option Addr) (c c' : Nat), SL w 5 (St.ds l) l.length A c → SL w 5 (St.ds m) m.length A' c' → Calls Try.prog 92 #[.slice A l.length c, .slice A' m.length c'] w (Ans w (.bool (eqStL l m)))
/-- What a look at two of them answers. -/
def EqFnV (t u : Fn) : Prop := ∀ (w : World) (vs us : List Value), Vals w t.d vs → Vals w u.d us → Calls Try.prog 64 #[.agg vs.toArray, .agg us.toArray] w (Ans w (.bool (eqFn t u)))
/-- What a look at two lists of them answers. -/
def EqFnL (l m : List Fn) : Prop := ∀ (w : World) (A A' : Option Addr) (c c' : Nat), SL w 5 (Fn.ds l) l.length A c → SL w 5 (Fn.ds m) m.length A' c' → Calls Try.prog 32 #[.slice A l.length c, .slice A' m.length c'] w (Ans w (.bool (eqFnL l m)))
def EqLoopEx (W : World) (l m : List Ex) (k : Nat) (wr : World) : Prop := (∀ j (h : j < l.length) (h' : j < m.length), j < k → eqEx l[j] m[j] = true) ∧ Below W.heap.size W wr
theorem EqLoopEx.next {W w2 : World} {l m : List Ex} {k : Nat} (h : ∀ j (h : j < l.length) (h' : j < m.length), j < k → eqEx l[j] m[j] = true) (hk : k < l.length) (hk' : k < m.length) (hp : eqEx l[k] m[k] = true) (hb : Below W.heap.size W w2) : EqLoopEx W l m (k + 1) w2 :=
  ⟨fun j hj hj' hjk => by
    by_cases e : j = k
    · subst e; exact hp
    · exact h j hj hj' (by omega), hb⟩
set_option maxRecDepth 100000 in
set_option maxHeartbeats 3200000 in
theorem sameExprs_any (l m : List Ex) (o_kids : ∀ t ∈ l, ∀ u ∈ m, EqExL t.kids u.kids) : EqExL l m := by
  intro w A A' c c' hl hm
  have hr := hl.2.2.1
  have hr' := hm.2.2.1
  unfold Reach at hr hr'
  have HL := Lib.hid hl; have HM := Lib.hid hm; clear hl hm
  have O_kids := Lib.hid o_kids; clear o_kids
  by_cases hne : l.length = m.length
  · have HE := Lib.hid hne
    have hb : ((l.length : Int) != (m.length : Int)) = false := by simp [hne]
    clear hne
    go_enter Try.func107, Try.ntmps107
    go_wp2_with fail
    go_loopw [5] (fun i wr => ∃ k : Nat, k ≤ l.length ∧ i = .int .i64 k ∧ EqLoopEx w l m k wr) (fun i _ => l.length - (intOf i).toNat)
    case atStart => exact ⟨0, Nat.zero_le _, rfl, fun _ _ _ h => absurd h (Nat.not_lt_zero _), Below.refl _ _⟩
    case round =>
      obtain ⟨k, hk, rfl, hw⟩ := hrel
      by_cases hlt : k < l.length
      · have hlt' : k < m.length := by have := HE.out; omega
        have hi' : (k : Int) < (m.length : Int) := by omega
        obtain ⟨b, o, hA, A3, c3, e0, e1, e2, e3, q0, q1, q2, q3⟩ := Ex.at HL.out.2.2.2 k hlt
        obtain ⟨b', o', hA', A3', c3', e0', e1', e2', e3', q0', q1', q2', q3'⟩ := Ex.at HM.out.2.2.2 k hlt'
        subst hA hA'
        have hsub := Below.sub hw.2
        have f0 := hsub _ _ e0
        have g0 := hsub _ _ e0'
        have f1 := hsub _ _ e1
        have g1 := hsub _ _ e1'
        have f2 := hsub _ _ e2
        have g2 := hsub _ _ e2'
        have f3 := hsub _ _ e3
        have g3 := hsub _ _ e3'
        have Q0 := Lib.hid q0; have Q0' := Lib.hid q0'
        have Q1 := Lib.hid q1; have Q1' := Lib.hid q1'
        have Q2 := Lib.hid q2; have Q2' := Lib.hid q2'
        have Q3 := Lib.hid q3; have Q3' := Lib.hid q3'
        have HB := Lib.hid hw.2
        have HN := Lib.hid hw.1
        clear hw hsub e0 e1 e2 e3 e0' e1' e2' e3' q0 q1 q2 q3 q0' q1' q2' q3'
        have T1 := List.getElem_mem hlt
        have T2 := List.getElem_mem hlt'
        have HT1 := Lib.hid T1; have HT2 := Lib.hid T2; clear T1 T2
        cases z0 : (l[k].op == m[k].op) with
        | false =>
          have Z0 := Lib.hid z0
          have y0 : (l[k].op != m[k].op) = true := by simp [bne, z0]
          go_wp2_with fail
          go_still_tail 48, (by kernel_rfl)
          change wpList _ _ _ _ _ wr.drew
          go_wp2_with fail
          refine bodyPost_ret (results_tmp rfl _ _ _) rfl ⟨?_, HB.out.drew⟩
          rw [eqExL_not l m k hlt hlt' (by rw [eqEx_eq, Z0.out]; rfl)]; rfl
        | true =>
          have Z0 := Lib.hid z0
          have y0 : (l[k].op != m[k].op) = false := by simp [bne, z0]
          cases z1 : (l[k].n == m[k].n) with
          | false =>
            have Z1 := Lib.hid z1
            have y1 : (l[k].n != m[k].n) = true := by simp [bne, z1]
            go_wp2_with fail
            go_still_tail 48, (by kernel_rfl)
            change wpList _ _ _ _ _ wr.drew
            go_wp2_with fail
            refine bodyPost_ret (results_tmp rfl _ _ _) rfl ⟨?_, HB.out.drew⟩
            rw [eqExL_not l m k hlt hlt' (by rw [eqEx_eq, Z0.out, Z1.out]; rfl)]; rfl
          | true =>
            have Z1 := Lib.hid z1
            have y1 : (l[k].n != m[k].n) = false := by simp [bne, z1]
            cases z2 : (l[k].name.toList == m[k].name.toList) with
            | false =>
              have Z2 := Lib.hid z2
              go_wp2_with fail
              go_still_tail 48, (by kernel_rfl)
              change wpList _ _ _ _ _ wr.drew
              go_wp2_with fail
              refine bodyPost_ret (results_tmp rfl _ _ _) rfl ⟨?_, HB.out.drew⟩
              rw [eqExL_not l m k hlt hlt' (by rw [eqEx_eq, Z0.out, Z1.out, Z2.out]; rfl)]; rfl
            | true =>
              have Z2 := Lib.hid z2
              cases z3 : eqExL l[k].kids m[k].kids with
              | false =>
                have Z3 := Lib.hid z3
                clear z3
                go_wp2_with fail
                go_still_tail 48, (by kernel_rfl)
                change wpList _ _ _ _ _ wr.drew
                go_wp2_with fail
                refine (O_kids.out _ HT1.out _ HT2.out _ A3 A3' c3 c3' (Q3.out.sub (Below.sub HB.out.drew)) (Q3'.out.sub (Below.sub HB.out.drew))).mono ?_
                rintro e w1 he
                obtain ⟨rfl, hb1⟩ := he.bool Z3.out; clear he
                have B1 := Lib.hid (HB.out.drew.trans (hb1.mono HB.out.drew.size)); clear hb1
                go_wp2_with fail
                refine bodyPost_ret (results_tmp rfl _ _ _) rfl ⟨?_, B1.out⟩
                rw [eqExL_not l m k hlt hlt' (by rw [eqEx_eq, Z0.out, Z1.out, Z2.out, Z3.out]; rfl)]; rfl
              | true =>
                have Z3 := Lib.hid z3
                clear z3
                go_wp2_with fail
                go_still_tail 48, (by kernel_rfl)
                change wpList _ _ _ _ _ wr.drew
                go_wp2_with fail
                refine (O_kids.out _ HT1.out _ HT2.out _ A3 A3' c3 c3' (Q3.out.sub (Below.sub HB.out.drew)) (Q3'.out.sub (Below.sub HB.out.drew))).mono ?_
                rintro e w1 he
                obtain ⟨rfl, hb1⟩ := he.bool Z3.out; clear he
                have B1 := Lib.hid (HB.out.drew.trans (hb1.mono HB.out.drew.size)); clear hb1
                go_wp2_with fail
                go_roundw
                case rel => exact ⟨k + 1, by omega, by go_num, EqLoopEx.next HN.out hlt hlt' (by rw [eqEx_eq, Z0.out, Z1.out, Z2.out, Z3.out]; rfl) B1.out⟩
                case measure => simp [intOf]; omega
      · have hall := hw.1
        have HB := Lib.hid hw.2
        have HQ := Lib.hid (eqExL_all l m HE.out (fun j h h' => hall j h h' (by omega)))
        clear hw hall
        go_wp2_with fail
        refine bodyPost_ret (results_tmp rfl _ _ _) rfl ⟨?_, HB.out⟩
        rw [HQ.out]; rfl
  · have hb : ((l.length : Int) != (m.length : Int)) = true := by simp; omega
    have HQ := Lib.hid (eqExL_len l m hne)
    clear hne
    go_enter Try.func107, Try.ntmps107
    go_wp2_with fail
    refine bodyPost_ret (results_tmp rfl _ _ _) rfl ⟨?_, Below.refl _ _⟩
    rw [HQ.out]; rfl

theorem eqEx_size : ∀ (n : Nat) (l m : List Ex), SizeOf.sizeOf l < n → EqExL l m
  | 0, _, _, h => absurd h (Nat.not_lt_zero _)
  | n + 1, l, m, h => sameExprs_any l m (fun t ht u _ => eqEx_size n t.kids u.kids (by
      have := List.sizeOf_lt_of_mem ht
      cases t
      simp only [Ex.mk.sizeOf_spec, Ex.kids] at *
      omega))
theorem eqExLV (l m : List Ex) : EqExL l m := eqEx_size _ l m (Nat.lt_succ_self _)

def EqLoopSt (W : World) (l m : List St) (k : Nat) (wr : World) : Prop := (∀ j (h : j < l.length) (h' : j < m.length), j < k → eqSt l[j] m[j] = true) ∧ Below W.heap.size W wr
theorem EqLoopSt.next {W w2 : World} {l m : List St} {k : Nat} (h : ∀ j (h : j < l.length) (h' : j < m.length), j < k → eqSt l[j] m[j] = true) (hk : k < l.length) (hk' : k < m.length) (hp : eqSt l[k] m[k] = true) (hb : Below W.heap.size W w2) : EqLoopSt W l m (k + 1) w2 :=
  ⟨fun j hj hj' hjk => by
    by_cases e : j = k
    · subst e; exact hp
    · exact h j hj hj' (by omega), hb⟩
set_option maxRecDepth 100000 in
set_option maxHeartbeats 3200000 in
theorem sameStats_any (l m : List St) (o_exprs : ∀ t ∈ l, ∀ u ∈ m, EqExL t.exprs u.exprs) (o_body : ∀ t ∈ l, ∀ u ∈ m, EqStL t.body u.body) (o_els : ∀ t ∈ l, ∀ u ∈ m, EqStL t.els u.els) : EqStL l m := by
  intro w A A' c c' hl hm
  have hr := hl.2.2.1
  have hr' := hm.2.2.1
  unfold Reach at hr hr'
  have HL := Lib.hid hl; have HM := Lib.hid hm; clear hl hm
  have O_exprs := Lib.hid o_exprs; clear o_exprs
  have O_body := Lib.hid o_body; clear o_body
  have O_els := Lib.hid o_els; clear o_els
  by_cases hne : l.length = m.length
  · have HE := Lib.hid hne
    have hb : ((l.length : Int) != (m.length : Int)) = false := by simp [hne]
    clear hne
    go_enter Try.func92, Try.ntmps92
    go_wp2_with fail
    go_loopw [5] (fun i wr => ∃ k : Nat, k ≤ l.length ∧ i = .int .i64 k ∧ EqLoopSt w l m k wr) (fun i _ => l.length - (intOf i).toNat)
    case atStart => exact ⟨0, Nat.zero_le _, rfl, fun _ _ _ h => absurd h (Nat.not_lt_zero _), Below.refl _ _⟩
    case round =>
      obtain ⟨k, hk, rfl, hw⟩ := hrel
      by_cases hlt : k < l.length
      · have hlt' : k < m.length := by have := HE.out; omega
        have hi' : (k : Int) < (m.length : Int) := by omega
        obtain ⟨b, o, hA, A2, c2, A3, c3, A4, c4, e0, e1, e2, e3, e4, q0, q1, q2, q3, q4⟩ := St.at HL.out.2.2.2 k hlt
        obtain ⟨b', o', hA', A2', c2', A3', c3', A4', c4', e0', e1', e2', e3', e4', q0', q1', q2', q3', q4'⟩ := St.at HM.out.2.2.2 k hlt'
        subst hA hA'
        have hsub := Below.sub hw.2
        have f0 := hsub _ _ e0
        have g0 := hsub _ _ e0'
        have f1 := hsub _ _ e1
        have g1 := hsub _ _ e1'
        have f2 := hsub _ _ e2
        have g2 := hsub _ _ e2'
        have f3 := hsub _ _ e3
        have g3 := hsub _ _ e3'
        have f4 := hsub _ _ e4
        have g4 := hsub _ _ e4'
        have Q0 := Lib.hid q0; have Q0' := Lib.hid q0'
        have Q1 := Lib.hid q1; have Q1' := Lib.hid q1'
        have Q2 := Lib.hid q2; have Q2' := Lib.hid q2'
        have Q3 := Lib.hid q3; have Q3' := Lib.hid q3'
        have Q4 := Lib.hid q4; have Q4' := Lib.hid q4'
        have HB := Lib.hid hw.2
        have HN := Lib.hid hw.1
        clear hw hsub e0 e1 e2 e3 e4 e0' e1' e2' e3' e4' q0 q1 q2 q3 q4 q0' q1' q2' q3' q4'
        have T1 := List.getElem_mem hlt
        have T2 := List.getElem_mem hlt'
        have HT1 := Lib.hid T1; have HT2 := Lib.hid T2; clear T1 T2
        cases z0 : (l[k].op == m[k].op) with
        | false =>
          have Z0 := Lib.hid z0
          have y0 : (l[k].op != m[k].op) = true := by simp [bne, z0]
          have HD := Lib.hid HB.out.drew
          go_wp2_with fail
          simp only [List.append]
          refine wp_region_cut [35, 13, 13] (by kernel_rfl) (by kernel_rfl) ?_
          refine wpCut_cons (fun K hK => ?_)
          simp only [List.drop_succ_cons, List.take_succ_cons, List.take_zero, List.drop_zero]
          repeat still_step
          refine wpStill_nil ?_
          go_wp2_with fail
          refine wpCut_cons (fun K hK => ?_)
          simp only [List.drop_succ_cons, List.take_succ_cons, List.take_zero, List.drop_zero]
          repeat still_step
          refine wpStill_nil ?_
          go_wp2_with fail
          refine wpCut_cons (fun K hK => ?_)
          simp only [List.drop_succ_cons, List.take_succ_cons, List.take_zero, List.drop_zero]
          repeat still_step
          refine wpStill_nil ?_
          go_wp2_with fail
          refine wpCut_nil ?_
          simp only [List.drop_succ_cons, List.take_succ_cons, List.take_zero, List.drop_zero]
          repeat still_step
          refine wpStill_nil ?_
          go_wp2_with fail
          refine bodyPost_ret (results_tmp rfl _ _ _) rfl ⟨?_, HD.out⟩
          rw [eqStL_not l m k hlt hlt' (by rw [eqSt_eq, Z0.out]; rfl)]; rfl
        | true =>
          have Z0 := Lib.hid z0
          have y0 : (l[k].op != m[k].op) = false := by simp [bne, z0]
          cases z1 : (l[k].n == m[k].n) with
          | false =>
            have Z1 := Lib.hid z1
            have y1 : (l[k].n != m[k].n) = true := by simp [bne, z1]
            have HD := Lib.hid HB.out.drew
            go_wp2_with fail
            simp only [List.append]
            refine wp_region_cut [35, 13, 13] (by kernel_rfl) (by kernel_rfl) ?_
            refine wpCut_cons (fun K hK => ?_)
            simp only [List.drop_succ_cons, List.take_succ_cons, List.take_zero, List.drop_zero]
            repeat still_step
            refine wpStill_nil ?_
            go_wp2_with fail
            refine wpCut_cons (fun K hK => ?_)
            simp only [List.drop_succ_cons, List.take_succ_cons, List.take_zero, List.drop_zero]
            repeat still_step
            refine wpStill_nil ?_
            go_wp2_with fail
            refine wpCut_cons (fun K hK => ?_)
            simp only [List.drop_succ_cons, List.take_succ_cons, List.take_zero, List.drop_zero]
            repeat still_step
            refine wpStill_nil ?_
            go_wp2_with fail
            refine wpCut_nil ?_
            simp only [List.drop_succ_cons, List.take_succ_cons, List.take_zero, List.drop_zero]
            repeat still_step
            refine wpStill_nil ?_
            go_wp2_with fail
            refine bodyPost_ret (results_tmp rfl _ _ _) rfl ⟨?_, HD.out⟩
            rw [eqStL_not l m k hlt hlt' (by rw [eqSt_eq, Z0.out, Z1.out]; rfl)]; rfl
          | true =>
            have Z1 := Lib.hid z1
            have y1 : (l[k].n != m[k].n) = false := by simp [bne, z1]
            cases z2 : eqExL l[k].exprs m[k].exprs with
            | false =>
              have Z2 := Lib.hid z2
              clear z2
              have HD := Lib.hid HB.out.drew
              go_wp2_with fail
              simp only [List.append]
              refine wp_region_cut [35, 13, 13] (by kernel_rfl) (by kernel_rfl) ?_
              refine wpCut_cons (fun K hK => ?_)
              simp only [List.drop_succ_cons, List.take_succ_cons, List.take_zero, List.drop_zero]
              repeat still_step
              refine wpStill_nil ?_
              go_wp2_with fail
              refine (O_exprs.out _ HT1.out _ HT2.out _ A2 A2' c2 c2' (Q2.out.sub (Below.sub HD.out)) (Q2'.out.sub (Below.sub HD.out))).mono ?_
              rintro e w1 he
              obtain ⟨rfl, hb1⟩ := he.bool Z2.out; clear he
              have d1_3 := Below.sub hb1 _ _ f3
              have k1_3 := Below.sub hb1 _ _ g3
              have d1_4 := Below.sub hb1 _ _ f4
              have k1_4 := Below.sub hb1 _ _ g4
              have B1 := Lib.hid (HD.out.trans (hb1.mono HD.out.size)); clear hb1
              go_wp2_with fail
              refine wpCut_cons (fun K hK => ?_)
              simp only [List.drop_succ_cons, List.take_succ_cons, List.take_zero, List.drop_zero]
              repeat still_step
              refine wpStill_nil ?_
              go_wp2_with fail
              refine wpCut_cons (fun K hK => ?_)
              simp only [List.drop_succ_cons, List.take_succ_cons, List.take_zero, List.drop_zero]
              repeat still_step
              refine wpStill_nil ?_
              go_wp2_with fail
              refine wpCut_nil ?_
              simp only [List.drop_succ_cons, List.take_succ_cons, List.take_zero, List.drop_zero]
              repeat still_step
              refine wpStill_nil ?_
              go_wp2_with fail
              refine bodyPost_ret (results_tmp rfl _ _ _) rfl ⟨?_, B1.out⟩
              rw [eqStL_not l m k hlt hlt' (by rw [eqSt_eq, Z0.out, Z1.out, Z2.out]; rfl)]; rfl
            | true =>
              have Z2 := Lib.hid z2
              clear z2
              cases z3 : eqStL l[k].body m[k].body with
              | false =>
                have Z3 := Lib.hid z3
                clear z3
                have HD := Lib.hid HB.out.drew
                go_wp2_with fail
                simp only [List.append]
                refine wp_region_cut [35, 13, 13] (by kernel_rfl) (by kernel_rfl) ?_
                refine wpCut_cons (fun K hK => ?_)
                simp only [List.drop_succ_cons, List.take_succ_cons, List.take_zero, List.drop_zero]
                repeat still_step
                refine wpStill_nil ?_
                go_wp2_with fail
                refine (O_exprs.out _ HT1.out _ HT2.out _ A2 A2' c2 c2' (Q2.out.sub (Below.sub HD.out)) (Q2'.out.sub (Below.sub HD.out))).mono ?_
                rintro e w1 he
                obtain ⟨rfl, hb1⟩ := he.bool Z2.out; clear he
                have d1_3 := Below.sub hb1 _ _ f3
                have k1_3 := Below.sub hb1 _ _ g3
                have d1_4 := Below.sub hb1 _ _ f4
                have k1_4 := Below.sub hb1 _ _ g4
                have B1 := Lib.hid (HD.out.trans (hb1.mono HD.out.size)); clear hb1
                go_wp2_with fail
                refine wpCut_cons (fun K hK => ?_)
                simp only [List.drop_succ_cons, List.take_succ_cons, List.take_zero, List.drop_zero]
                repeat still_step
                refine wpStill_nil ?_
                go_wp2_with fail
                refine (O_body.out _ HT1.out _ HT2.out _ A3 A3' c3 c3' (Q3.out.sub (Below.sub B1.out)) (Q3'.out.sub (Below.sub B1.out))).mono ?_
                rintro e w2 he
                obtain ⟨rfl, hb2⟩ := he.bool Z3.out; clear he
                have d2_4 := Below.sub hb2 _ _ d1_4
                have k2_4 := Below.sub hb2 _ _ k1_4
                have B2 := Lib.hid (B1.out.trans (hb2.mono B1.out.size)); clear hb2
                go_wp2_with fail
                refine wpCut_cons (fun K hK => ?_)
                simp only [List.drop_succ_cons, List.take_succ_cons, List.take_zero, List.drop_zero]
                repeat still_step
                refine wpStill_nil ?_
                go_wp2_with fail
                refine wpCut_nil ?_
                simp only [List.drop_succ_cons, List.take_succ_cons, List.take_zero, List.drop_zero]
                repeat still_step
                refine wpStill_nil ?_
                go_wp2_with fail
                refine bodyPost_ret (results_tmp rfl _ _ _) rfl ⟨?_, B2.out⟩
                rw [eqStL_not l m k hlt hlt' (by rw [eqSt_eq, Z0.out, Z1.out, Z2.out, Z3.out]; rfl)]; rfl
              | true =>
                have Z3 := Lib.hid z3
                clear z3
                cases z4 : eqStL l[k].els m[k].els with
                | false =>
                  have Z4 := Lib.hid z4
                  clear z4
                  have HD := Lib.hid HB.out.drew
                  go_wp2_with fail
                  simp only [List.append]
                  refine wp_region_cut [35, 13, 13] (by kernel_rfl) (by kernel_rfl) ?_
                  refine wpCut_cons (fun K hK => ?_)
                  simp only [List.drop_succ_cons, List.take_succ_cons, List.take_zero, List.drop_zero]
                  repeat still_step
                  refine wpStill_nil ?_
                  go_wp2_with fail
                  refine (O_exprs.out _ HT1.out _ HT2.out _ A2 A2' c2 c2' (Q2.out.sub (Below.sub HD.out)) (Q2'.out.sub (Below.sub HD.out))).mono ?_
                  rintro e w1 he
                  obtain ⟨rfl, hb1⟩ := he.bool Z2.out; clear he
                  have d1_3 := Below.sub hb1 _ _ f3
                  have k1_3 := Below.sub hb1 _ _ g3
                  have d1_4 := Below.sub hb1 _ _ f4
                  have k1_4 := Below.sub hb1 _ _ g4
                  have B1 := Lib.hid (HD.out.trans (hb1.mono HD.out.size)); clear hb1
                  go_wp2_with fail
                  refine wpCut_cons (fun K hK => ?_)
                  simp only [List.drop_succ_cons, List.take_succ_cons, List.take_zero, List.drop_zero]
                  repeat still_step
                  refine wpStill_nil ?_
                  go_wp2_with fail
                  refine (O_body.out _ HT1.out _ HT2.out _ A3 A3' c3 c3' (Q3.out.sub (Below.sub B1.out)) (Q3'.out.sub (Below.sub B1.out))).mono ?_
                  rintro e w2 he
                  obtain ⟨rfl, hb2⟩ := he.bool Z3.out; clear he
                  have d2_4 := Below.sub hb2 _ _ d1_4
                  have k2_4 := Below.sub hb2 _ _ k1_4
                  have B2 := Lib.hid (B1.out.trans (hb2.mono B1.out.size)); clear hb2
                  go_wp2_with fail
                  refine wpCut_cons (fun K hK => ?_)
                  simp only [List.drop_succ_cons, List.take_succ_cons, List.take_zero, List.drop_zero]
                  repeat still_step
                  refine wpStill_nil ?_
                  go_wp2_with fail
                  refine (O_els.out _ HT1.out _ HT2.out _ A4 A4' c4 c4' (Q4.out.sub (Below.sub B2.out)) (Q4'.out.sub (Below.sub B2.out))).mono ?_
                  rintro e w3 he
                  obtain ⟨rfl, hb3⟩ := he.bool Z4.out; clear he
                  have B3 := Lib.hid (B2.out.trans (hb3.mono B2.out.size)); clear hb3
                  go_wp2_with fail
                  refine wpCut_nil ?_
                  simp only [List.drop_succ_cons, List.take_succ_cons, List.take_zero, List.drop_zero]
                  repeat still_step
                  refine wpStill_nil ?_
                  go_wp2_with fail
                  refine bodyPost_ret (results_tmp rfl _ _ _) rfl ⟨?_, B3.out⟩
                  rw [eqStL_not l m k hlt hlt' (by rw [eqSt_eq, Z0.out, Z1.out, Z2.out, Z3.out, Z4.out]; rfl)]; rfl
                | true =>
                  have Z4 := Lib.hid z4
                  clear z4
                  have HD := Lib.hid HB.out.drew
                  go_wp2_with fail
                  simp only [List.append]
                  refine wp_region_cut [35, 13, 13] (by kernel_rfl) (by kernel_rfl) ?_
                  refine wpCut_cons (fun K hK => ?_)
                  simp only [List.drop_succ_cons, List.take_succ_cons, List.take_zero, List.drop_zero]
                  repeat still_step
                  refine wpStill_nil ?_
                  go_wp2_with fail
                  refine (O_exprs.out _ HT1.out _ HT2.out _ A2 A2' c2 c2' (Q2.out.sub (Below.sub HD.out)) (Q2'.out.sub (Below.sub HD.out))).mono ?_
                  rintro e w1 he
                  obtain ⟨rfl, hb1⟩ := he.bool Z2.out; clear he
                  have d1_3 := Below.sub hb1 _ _ f3
                  have k1_3 := Below.sub hb1 _ _ g3
                  have d1_4 := Below.sub hb1 _ _ f4
                  have k1_4 := Below.sub hb1 _ _ g4
                  have B1 := Lib.hid (HD.out.trans (hb1.mono HD.out.size)); clear hb1
                  go_wp2_with fail
                  refine wpCut_cons (fun K hK => ?_)
                  simp only [List.drop_succ_cons, List.take_succ_cons, List.take_zero, List.drop_zero]
                  repeat still_step
                  refine wpStill_nil ?_
                  go_wp2_with fail
                  refine (O_body.out _ HT1.out _ HT2.out _ A3 A3' c3 c3' (Q3.out.sub (Below.sub B1.out)) (Q3'.out.sub (Below.sub B1.out))).mono ?_
                  rintro e w2 he
                  obtain ⟨rfl, hb2⟩ := he.bool Z3.out; clear he
                  have d2_4 := Below.sub hb2 _ _ d1_4
                  have k2_4 := Below.sub hb2 _ _ k1_4
                  have B2 := Lib.hid (B1.out.trans (hb2.mono B1.out.size)); clear hb2
                  go_wp2_with fail
                  refine wpCut_cons (fun K hK => ?_)
                  simp only [List.drop_succ_cons, List.take_succ_cons, List.take_zero, List.drop_zero]
                  repeat still_step
                  refine wpStill_nil ?_
                  go_wp2_with fail
                  refine (O_els.out _ HT1.out _ HT2.out _ A4 A4' c4 c4' (Q4.out.sub (Below.sub B2.out)) (Q4'.out.sub (Below.sub B2.out))).mono ?_
                  rintro e w3 he
                  obtain ⟨rfl, hb3⟩ := he.bool Z4.out; clear he
                  have B3 := Lib.hid (B2.out.trans (hb3.mono B2.out.size)); clear hb3
                  go_wp2_with fail
                  refine wpCut_nil ?_
                  simp only [List.drop_succ_cons, List.take_succ_cons, List.take_zero, List.drop_zero]
                  repeat still_step
                  refine wpStill_nil ?_
                  go_wp2_with fail
                  go_roundw
                  case rel => exact ⟨k + 1, by omega, by go_num, EqLoopSt.next HN.out hlt hlt' (by rw [eqSt_eq, Z0.out, Z1.out, Z2.out, Z3.out, Z4.out]; rfl) B3.out⟩
                  case measure => simp [intOf]; omega
      · have hall := hw.1
        have HB := Lib.hid hw.2
        have HQ := Lib.hid (eqStL_all l m HE.out (fun j h h' => hall j h h' (by omega)))
        clear hw hall
        go_wp2_with fail
        refine bodyPost_ret (results_tmp rfl _ _ _) rfl ⟨?_, HB.out⟩
        rw [HQ.out]; rfl
  · have hb : ((l.length : Int) != (m.length : Int)) = true := by simp; omega
    have HQ := Lib.hid (eqStL_len l m hne)
    clear hne
    go_enter Try.func92, Try.ntmps92
    go_wp2_with fail
    refine bodyPost_ret (results_tmp rfl _ _ _) rfl ⟨?_, Below.refl _ _⟩
    rw [HQ.out]; rfl

theorem eqSt_size : ∀ (n : Nat) (l m : List St), SizeOf.sizeOf l < n → EqStL l m
  | 0, _, _, h => absurd h (Nat.not_lt_zero _)
  | n + 1, l, m, h => sameStats_any l m (fun t _ u _ => eqExLV _ _) (fun t ht u _ => eqSt_size n t.body u.body (by
      have := List.sizeOf_lt_of_mem ht
      cases t
      simp only [St.mk.sizeOf_spec, St.body] at *
      omega)) (fun t ht u _ => eqSt_size n t.els u.els (by
      have := List.sizeOf_lt_of_mem ht
      cases t
      simp only [St.mk.sizeOf_spec, St.els] at *
      omega))
theorem eqStLV (l m : List St) : EqStL l m := eqSt_size _ l m (Nat.lt_succ_self _)

set_option maxRecDepth 100000 in
set_option maxHeartbeats 1600000 in
theorem sameFunc_any (t u : Fn) (o_body : EqStL t.body u.body) : EqFnV t u := by
  intro w vs us hv hu
  obtain ⟨A4, c4, rfl, q0, q2, q3, q4⟩ := Fn.opn hv
  obtain ⟨A4', c4', rfl, q0', q2', q3', q4'⟩ := Fn.opn hu
  have hw2 : Below w.heap.size w ((w.alloc (.cells #[.string t.name, .bool t.weak, .int .i64 t.params, .int .i64 t.locals, .slice A4 t.body.length c4] 67)).alloc (.cells #[.string u.name, .bool u.weak, .int .i64 u.params, .int .i64 u.locals, .slice A4' u.body.length c4'] 67)) := ((Below.refl _ w).alloc (Nat.le_refl _) _).alloc (by simp) _
  have hA1 := alloc_old (alloc_at w (.cells #[.string t.name, .bool t.weak, .int .i64 t.params, .int .i64 t.locals, .slice A4 t.body.length c4] 67)) (.cells #[.string u.name, .bool u.weak, .int .i64 u.params, .int .i64 u.locals, .slice A4' u.body.length c4'] 67)
  have hA2 := alloc_at (w.alloc (.cells #[.string t.name, .bool t.weak, .int .i64 t.params, .int .i64 t.locals, .slice A4 t.body.length c4] 67)) (.cells #[.string u.name, .bool u.weak, .int .i64 u.params, .int .i64 u.locals, .slice A4' u.body.length c4'] 67)
  rw [World.size_alloc] at hA2
  have HW := Lib.hid hw2; have HA1 := Lib.hid hA1; have HA2 := Lib.hid hA2; clear hw2 hA1 hA2 hv hu
  have O_body := Lib.hid o_body; clear o_body
  have Q0 := Lib.hid q0; have Q0' := Lib.hid q0'; clear q0 q0'
  have Q2 := Lib.hid q2; have Q2' := Lib.hid q2'; clear q2 q2'
  have Q3 := Lib.hid q3; have Q3' := Lib.hid q3'; clear q3 q3'
  have Q4 := Lib.hid q4; have Q4' := Lib.hid q4'; clear q4 q4'
  cases z0 : (t.name.toList == u.name.toList) with
  | false =>
    have Z0 := Lib.hid z0
    go_enter Try.func64, Try.ntmps64
    go_wp2_with fail
    refine bodyPost_ret (results_tmp rfl _ _ _) rfl ⟨?_, HW.out⟩
    rw [eqFn_eq, Z0.out]; rfl
  | true =>
    have Z0 := Lib.hid z0
    cases z1 : (t.weak == u.weak) with
    | false =>
      have Z1 := Lib.hid z1
      have y1 : (t.weak != u.weak) = true := by simp [bne, z1]
      go_enter Try.func64, Try.ntmps64
      go_wp2_with fail
      refine bodyPost_ret (results_tmp rfl _ _ _) rfl ⟨?_, HW.out⟩
      rw [eqFn_eq, Z0.out, Z1.out]; rfl
    | true =>
      have Z1 := Lib.hid z1
      have y1 : (t.weak != u.weak) = false := by simp [bne, z1]
      cases z2 : (t.params == u.params) with
      | false =>
        have Z2 := Lib.hid z2
        have y2 : (t.params != u.params) = true := by simp [bne, z2]
        go_enter Try.func64, Try.ntmps64
        go_wp2_with fail
        refine bodyPost_ret (results_tmp rfl _ _ _) rfl ⟨?_, HW.out⟩
        rw [eqFn_eq, Z0.out, Z1.out, Z2.out]; rfl
      | true =>
        have Z2 := Lib.hid z2
        have y2 : (t.params != u.params) = false := by simp [bne, z2]
        cases z3 : (t.locals == u.locals) with
        | false =>
          have Z3 := Lib.hid z3
          have y3 : (t.locals != u.locals) = true := by simp [bne, z3]
          go_enter Try.func64, Try.ntmps64
          go_wp2_with fail
          refine bodyPost_ret (results_tmp rfl _ _ _) rfl ⟨?_, HW.out⟩
          rw [eqFn_eq, Z0.out, Z1.out, Z2.out, Z3.out]; rfl
        | true =>
          have Z3 := Lib.hid z3
          have y3 : (t.locals != u.locals) = false := by simp [bne, z3]
          cases z4 : eqStL t.body u.body with
          | false =>
            have Z4 := Lib.hid z4
            clear z4
            go_enter Try.func64, Try.ntmps64
            go_wp2_with fail
            refine (O_body.out _ A4 A4' c4 c4' (Q4.out.sub (Below.sub HW.out)) (Q4'.out.sub (Below.sub HW.out))).mono ?_
            rintro e w1 he
            obtain ⟨rfl, hb1⟩ := he.bool Z4.out; clear he
            have B1 := Lib.hid (HW.out.trans (hb1.mono HW.out.size)); clear hb1
            go_wp2_with fail
            refine bodyPost_ret (results_tmp rfl _ _ _) rfl ⟨?_, B1.out⟩
            rw [eqFn_eq, Z0.out, Z1.out, Z2.out, Z3.out, Z4.out]; rfl
          | true =>
            have Z4 := Lib.hid z4
            clear z4
            go_enter Try.func64, Try.ntmps64
            go_wp2_with fail
            refine (O_body.out _ A4 A4' c4 c4' (Q4.out.sub (Below.sub HW.out)) (Q4'.out.sub (Below.sub HW.out))).mono ?_
            rintro e w1 he
            obtain ⟨rfl, hb1⟩ := he.bool Z4.out; clear he
            have B1 := Lib.hid (HW.out.trans (hb1.mono HW.out.size)); clear hb1
            go_wp2_with fail
            refine bodyPost_ret (results_tmp rfl _ _ _) rfl ⟨?_, B1.out⟩
            rw [eqFn_eq, Z0.out, Z1.out, Z2.out, Z3.out, Z4.out]; rfl

theorem eqFnV (t u : Fn) : EqFnV t u := sameFunc_any t u (eqStLV _ _)

def EqLoopFn (W : World) (l m : List Fn) (k : Nat) (wr : World) : Prop := (∀ j (h : j < l.length) (h' : j < m.length), j < k → eqFn l[j] m[j] = true) ∧ Below W.heap.size W wr
theorem EqLoopFn.next {W w2 : World} {l m : List Fn} {k : Nat} (h : ∀ j (h : j < l.length) (h' : j < m.length), j < k → eqFn l[j] m[j] = true) (hk : k < l.length) (hk' : k < m.length) (hp : eqFn l[k] m[k] = true) (hb : Below W.heap.size W w2) : EqLoopFn W l m (k + 1) w2 :=
  ⟨fun j hj hj' hjk => by
    by_cases e : j = k
    · subst e; exact hp
    · exact h j hj hj' (by omega), hb⟩
set_option maxRecDepth 100000 in
set_option maxHeartbeats 3200000 in
theorem sameFuncs_any (l m : List Fn) (o_e : ∀ t ∈ l, ∀ u ∈ m, EqFnV t u) : EqFnL l m := by
  intro w A A' c c' hl hm
  have hr := hl.2.2.1
  have hr' := hm.2.2.1
  unfold Reach at hr hr'
  have HL := Lib.hid hl; have HM := Lib.hid hm; clear hl hm
  have O_e := Lib.hid o_e; clear o_e
  by_cases hne : l.length = m.length
  · have HE := Lib.hid hne
    have hb : ((l.length : Int) != (m.length : Int)) = false := by simp [hne]
    clear hne
    go_enter Try.func32, Try.ntmps32
    go_wp2_with fail
    go_loopw [5] (fun i wr => ∃ k : Nat, k ≤ l.length ∧ i = .int .i64 k ∧ EqLoopFn w l m k wr) (fun i _ => l.length - (intOf i).toNat)
    case atStart => exact ⟨0, Nat.zero_le _, rfl, fun _ _ _ h => absurd h (Nat.not_lt_zero _), Below.refl _ _⟩
    case round =>
      obtain ⟨k, hk, rfl, hw⟩ := hrel
      by_cases hlt : k < l.length
      · have hlt' : k < m.length := by have := HE.out; omega
        have hi' : (k : Int) < (m.length : Int) := by omega
        obtain ⟨b, o, hA, A4, c4, e0, e1, e2, e3, e4, q0, q2, q3, q4⟩ := Fn.at HL.out.2.2.2 k hlt
        obtain ⟨b', o', hA', A4', c4', e0', e1', e2', e3', e4', q0', q2', q3', q4'⟩ := Fn.at HM.out.2.2.2 k hlt'
        subst hA hA'
        have hsub := Below.sub hw.2
        have f0 := hsub _ _ e0
        have g0 := hsub _ _ e0'
        have f1 := hsub _ _ e1
        have g1 := hsub _ _ e1'
        have f2 := hsub _ _ e2
        have g2 := hsub _ _ e2'
        have f3 := hsub _ _ e3
        have g3 := hsub _ _ e3'
        have f4 := hsub _ _ e4
        have g4 := hsub _ _ e4'
        have Q0 := Lib.hid q0; have Q0' := Lib.hid q0'
        have Q2 := Lib.hid q2; have Q2' := Lib.hid q2'
        have Q3 := Lib.hid q3; have Q3' := Lib.hid q3'
        have Q4 := Lib.hid q4; have Q4' := Lib.hid q4'
        have HB := Lib.hid hw.2
        have HN := Lib.hid hw.1
        clear hw hsub e0 e1 e2 e3 e4 e0' e1' e2' e3' e4' q0 q2 q3 q4 q0' q2' q3' q4'
        have T1 := List.getElem_mem hlt
        have T2 := List.getElem_mem hlt'
        have HT1 := Lib.hid T1; have HT2 := Lib.hid T2; clear T1 T2
        cases z0 : eqFn l[k] m[k] with
        | false =>
          have Z0 := Lib.hid z0; clear z0
          go_wp2_with fail
          go_still_tail 8, (by kernel_rfl)
          change wpList _ _ _ _ _ wr.drew
          go_wp2_with fail
          refine (O_e.out _ HT1.out _ HT2.out _ _ _ ((Fn.shut (w := w) (t := l[k]) Q0.out Q2.out Q3.out Q4.out).sub (Below.sub HB.out.drew)) ((Fn.shut (w := w) (t := m[k]) Q0'.out Q2'.out Q3'.out Q4'.out).sub (Below.sub HB.out.drew))).mono ?_
          rintro e w1 he
          obtain ⟨rfl, hb1⟩ := he.bool Z0.out; clear he
          have B1 := Lib.hid (HB.out.drew.trans (hb1.mono HB.out.drew.size)); clear hb1
          go_wp2_with fail
          refine bodyPost_ret (results_tmp rfl _ _ _) rfl ⟨?_, B1.out⟩
          rw [eqFnL_not l m k hlt hlt' (Z0.out)]; rfl
        | true =>
          have Z0 := Lib.hid z0; clear z0
          go_wp2_with fail
          go_still_tail 8, (by kernel_rfl)
          change wpList _ _ _ _ _ wr.drew
          go_wp2_with fail
          refine (O_e.out _ HT1.out _ HT2.out _ _ _ ((Fn.shut (w := w) (t := l[k]) Q0.out Q2.out Q3.out Q4.out).sub (Below.sub HB.out.drew)) ((Fn.shut (w := w) (t := m[k]) Q0'.out Q2'.out Q3'.out Q4'.out).sub (Below.sub HB.out.drew))).mono ?_
          rintro e w1 he
          obtain ⟨rfl, hb1⟩ := he.bool Z0.out; clear he
          have B1 := Lib.hid (HB.out.drew.trans (hb1.mono HB.out.drew.size)); clear hb1
          go_wp2_with fail
          go_roundw
          case rel => exact ⟨k + 1, by omega, by go_num, EqLoopFn.next HN.out hlt hlt' (Z0.out) B1.out⟩
          case measure => simp [intOf]; omega
      · have hall := hw.1
        have HB := Lib.hid hw.2
        have HQ := Lib.hid (eqFnL_all l m HE.out (fun j h h' => hall j h h' (by omega)))
        clear hw hall
        go_wp2_with fail
        refine bodyPost_ret (results_tmp rfl _ _ _) rfl ⟨?_, HB.out⟩
        rw [HQ.out]; rfl
  · have hb : ((l.length : Int) != (m.length : Int)) = true := by simp; omega
    have HQ := Lib.hid (eqFnL_len l m hne)
    clear hne
    go_enter Try.func32, Try.ntmps32
    go_wp2_with fail
    refine bodyPost_ret (results_tmp rfl _ _ _) rfl ⟨?_, Below.refl _ _⟩
    rw [HQ.out]; rfl

theorem eqFnLV (l m : List Fn) : EqFnL l m := sameFuncs_any l m (fun t _ u _ => eqFnV t u)

end Go.Proofs.Ytghnaaahkbnhlaa
