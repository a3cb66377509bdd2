/-
  The walk of export's shallow, and of the sum over bytes. The conditions: the unit reads.
-/
import Derived.Test.YtghnaaahkbnhlaaFits
namespace Go.Proofs.Ytghnaaahkbnhlaa
open Go.RowKit
set_option linter.unusedVariables false

mutual
theorem fitTy_all : ∀ (t : Ty) (a : Int), 0 ≤ a → a ≤ 101 → FitTy t a
  | .mk k p n xs ys, a, h0, h1 => fitsTy_any _ a h0 h1 (fun x hx ha => fitTyL_all xs x hx (a + 1) (by omega) (by omega)) (fun x hx ha => fitTyL_all ys x hx (a + 1) (by omega) (by omega))
theorem fitTyL_all : ∀ (l : List Ty) (x : Ty), x ∈ l → ∀ (a : Int), 0 ≤ a → a ≤ 101 → FitTy x a
  | [], x, hx, _, _, _ => by cases hx
  | t :: r, x, hx, a, h0, h1 => by
    rcases List.mem_cons.1 hx with e | e
    · rw [e]; exact fitTy_all t a h0 h1
    · exact fitTyL_all r x e a h0 h1
end
mutual
theorem fitEx_all : ∀ (t : Ex) (a : Int), 0 ≤ a → a ≤ 101 → FitEx t a
  | .mk o n s xs, a, h0, h1 => fitsEx_any _ a h0 h1 (fun x hx ha => fitExL_all xs x hx (a + 1) (by omega) (by omega))
theorem fitExL_all : ∀ (l : List Ex) (x : Ex), x ∈ l → ∀ (a : Int), 0 ≤ a → a ≤ 101 → FitEx x a
  | [], x, hx, _, _, _ => by cases hx
  | t :: r, x, hx, a, h0, h1 => by
    rcases List.mem_cons.1 hx with e | e
    · rw [e]; exact fitEx_all t a h0 h1
    · exact fitExL_all r x e a h0 h1
end
mutual
theorem fitSt_all : ∀ (t : St) (a : Int), 0 ≤ a → a ≤ 101 → FitSt t a
  | .mk o n es bs ls, a, h0, h1 => fitsSt_any _ a h0 h1 (fun x hx ha => fitEx_all x (a + 1) (by omega) (by omega)) (fun x hx ha => fitStL_all bs x hx (a + 1) (by omega) (by omega)) (fun x hx ha => fitStL_all ls x hx (a + 1) (by omega) (by omega))
theorem fitStL_all : ∀ (l : List St) (x : St), x ∈ l → ∀ (a : Int), 0 ≤ a → a ≤ 101 → FitSt x a
  | [], x, hx, _, _, _ => by cases hx
  | t :: r, x, hx, a, h0, h1 => by
    rcases List.mem_cons.1 hx with e | e
    · rw [e]; exact fitSt_all t a h0 h1
    · exact fitStL_all r x e a h0 h1
end

/-- Is a declaration shallow, a function? -/
def shalD (d : Dcl) : Bool := fitTy d.type 0 && d.fields.all fun f => fitTy f.type 0
def shalF (f : Fn) : Bool := fitStL f.body 0
def shalU (u : Un) : Bool := u.decls.all shalD && u.bodies.all shalF

theorem fields_any (l : List Fld) : l.any (fun f => !fitTy f.type 0) = !l.all fun f => fitTy f.type 0 := by
  induction l with
  | nil => rfl
  | cons x l ih => simp [ih]

/-- Where the loop stands: all before k have passed. -/
def Pass {α : Type} (p : α → Bool) (W : World) (l : List α) (k : Nat) (wr : World) : Prop := (∀ j (hj : j < l.length), j < k → p l[j] = true) ∧ Below W.heap.size W wr
theorem Pass.next {α : Type} {p : α → Bool} {W w2 : World} {l : List α} {k : Nat} (h : ∀ j (hj : j < l.length), j < k → p l[j] = true) (hk : k < l.length) (hp : p l[k] = true) (hb : Below W.heap.size W w2) : Pass p W l (k + 1) w2 :=
  ⟨fun j hj hjk => by
    by_cases e : j = k
    · subst e; exact hp
    · exact h j hj (by omega), hb⟩
theorem Pass.all {α : Type} {p : α → Bool} {W wr : World} {l : List α} {k : Nat} (h : Pass p W l k wr) (hk : l.length ≤ k) : l.all p = true := by
  rw [List.all_eq_true]
  intro x hx
  obtain ⟨j, hj, rfl⟩ := List.getElem_of_mem hx
  exact h.1 j hj (by omega)
theorem not_all {α : Type} {p : α → Bool} {l : List α} {k : Nat} (hk : k < l.length) (hp : p l[k] = false) : l.all p = false := by
  rw [List.all_eq_false]
  exact ⟨l[k], List.getElem_mem hk, by simp [hp]⟩

set_option maxRecDepth 100000 in
set_option maxHeartbeats 800000 in
theorem shallow_any (w : World) (u : Un) (vs : List Value) (hv : Vals w u.d vs) : Calls Try.prog 21 #[.agg vs.toArray] w (Ans w (.bool (shalU u))) := by
  obtain ⟨A1, c1, A2, c2, A3, c3, rfl, q0, q1, q2, q3⟩ := Un.opn hv
  have hr2 := q2.2.2.1
  have hr3 := q3.2.2.1
  unfold Reach at hr2 hr3
  have hA0 := alloc_at w (.cells #[.string u.pkg, .slice A1 u.imports.length c1, .slice A2 u.decls.length c2, .slice A3 u.bodies.length c3] 30)
  have hB0 : Below w.heap.size w (w.alloc (.cells #[.string u.pkg, .slice A1 u.imports.length c1, .slice A2 u.decls.length c2, .slice A3 u.bodies.length c3] 30)) := (Below.refl _ _).alloc (Nat.le_refl _) _
  have HA0 := Lib.hid hA0
  have HB0 := Lib.hid hB0
  have Q2 := Lib.hid (q2.sub (Below.sub hB0))
  have Q3 := Lib.hid (q3.sub (Below.sub hB0))
  clear hA0 hB0 q0 q1 q2 q3 hv
  go_enter Try.func21, Try.ntmps21
  go_wp2_with fail
  generalize hW : w.alloc (.cells #[.string u.pkg, .slice A1 u.imports.length c1, .slice A2 u.decls.length c2, .slice A3 u.bodies.length c3] 30) = W at HA0 HB0 Q2 Q3 ⊢
  clear hW
  go_loopw [10] (fun i wr => ∃ k : Nat, k ≤ u.decls.length ∧ i = .int .i64 k ∧ Pass shalD W u.decls k wr) (fun i _ => u.decls.length - (intOf i).toNat)
  case atStart => exact ⟨0, Nat.zero_le _, rfl, fun _ _ h => absurd h (Nat.not_lt_zero _), Below.refl _ _⟩
  case round =>
    obtain ⟨k, hk, rfl, hw⟩ := hrel
    by_cases hlt : k < u.decls.length
    · obtain ⟨b, o, hA, A7, d7, A8, d8, A9, d9, e0, e1, e2, e3, e4, e5, e6, e7, e8, e9, p0, p1, p2, p3, p4, p5, p6, p7, p8, p9⟩ := Dcl.at Q2.out.2.2.2 k hlt
      subst hA
      have hsub := Below.sub hw.2
      have HT := Lib.hid ((Ty.shut (w := W) (t := (u.decls[k]).type) p4 p5 p6 p7 p8).sub hsub)
      have HF := Lib.hid (p9.sub hsub)
      have f0 := hsub _ _ e0
      have f1 := hsub _ _ e1
      have f2 := hsub _ _ e2
      have f3 := hsub _ _ e3
      have f4 := hsub _ _ e4
      have f5 := hsub _ _ e5
      have f6 := hsub _ _ e6
      have f7 := hsub _ _ e7
      have f8 := hsub _ _ e8
      have f9 := hsub _ _ e9
      have HB := Lib.hid hw.2
      have HN := Lib.hid hw.1
      clear hw hsub e0 e1 e2 e3 e4 e5 e6 e7 e8 e9 p0 p1 p2 p3 p4 p5 p6 p7 p8 p9
      have hbx := (Below.refl wr.heap.size wr).alloc (Nat.le_refl _) (.cells #[.int .i64 (u.decls[k]).kind, .string (u.decls[k]).name, .string (u.decls[k]).of, .int .i64 (u.decls[k]).value, .int .i64 (u.decls[k]).type.kind, .string (u.decls[k]).type.pkg, .string (u.decls[k]).type.name, .slice A7 (u.decls[k]).type.args.length d7, .slice A8 (u.decls[k]).type.res.length d8, .slice A9 (u.decls[k]).fields.length d9] 47)
      have hbt := alloc_at wr (.cells #[.int .i64 (u.decls[k]).kind, .string (u.decls[k]).name, .string (u.decls[k]).of, .int .i64 (u.decls[k]).value, .int .i64 (u.decls[k]).type.kind, .string (u.decls[k]).type.pkg, .string (u.decls[k]).type.name, .slice A7 (u.decls[k]).type.args.length d7, .slice A8 (u.decls[k]).type.res.length d8, .slice A9 (u.decls[k]).fields.length d9] 47)
      have HX := Lib.hid hbx
      have HT2 := Lib.hid hbt
      clear hbx hbt
      cases hz : fitTy (u.decls[k]).type 0 with
      | false =>
        have HZ := Lib.hid hz; clear hz
        go_wp2_with fail
        refine (fitTy_all _ 0 (by omega) (by omega) _ _ (HT.out.sub (Below.sub HX.out))).mono ?_
        rintro e w2 he
        obtain ⟨rfl, hb2⟩ := he.bool HZ.out; clear he
        have HB2 := Lib.hid (HB.out.trans ((HX.out.trans (hb2.mono HX.out.size)).mono HB.out.size)); clear hb2
        go_wp2_with fail
        refine bodyPost_ret (results_tmp rfl _ _ _) rfl ⟨?_, HB0.out.trans (HB2.out.mono HB0.out.size)⟩
        rw [shalU, not_all hlt (by rw [shalD, HZ.out]; rfl)]; rfl
      | true =>
        have HZ := Lib.hid hz; clear hz
        cases hy : (u.decls[k]).fields.all (fun f => fitTy f.type 0) with
        | false =>
          have HY := Lib.hid hy; clear hy
          go_wp2_with fail
          refine (fitTy_all _ 0 (by omega) (by omega) _ _ (HT.out.sub (Below.sub HX.out))).mono ?_
          rintro e w2 he
          obtain ⟨rfl, hb2⟩ := he.bool HZ.out; clear he
          have d9f := Below.sub hb2 _ _ ((cell_at HT2.out 9).trans rfl)
          have HB2 := Lib.hid (HX.out.trans (hb2.mono HX.out.size)); clear hb2
          go_wp2_with fail
          refine (containsFld_any _ 53 _ enters53 _ A9 d9 (HF.out.sub (Below.sub HB2.out)) _ (fun x _ => clos53_any _ x (fitTy_all x.type 0 (by omega) (by omega))) true ((fields_any _).trans (by rw [HY.out]; rfl))).mono ?_
          rintro e w3 ⟨rfl, hb3⟩
          have HB3 := Lib.hid (HB.out.trans ((HB2.out.trans (hb3.mono HB2.out.size)).mono HB.out.size)); clear hb3 d9f
          go_wp2_with fail
          refine bodyPost_ret (results_tmp rfl _ _ _) rfl ⟨?_, HB0.out.trans (HB3.out.mono HB0.out.size)⟩
          rw [shalU, not_all hlt (by rw [shalD, HY.out, Bool.and_false])]; rfl
        | true =>
          have HY := Lib.hid hy; clear hy
          go_wp2_with fail
          refine (fitTy_all _ 0 (by omega) (by omega) _ _ (HT.out.sub (Below.sub HX.out))).mono ?_
          rintro e w2 he
          obtain ⟨rfl, hb2⟩ := he.bool HZ.out; clear he
          have d9f := Below.sub hb2 _ _ ((cell_at HT2.out 9).trans rfl)
          have HB2 := Lib.hid (HX.out.trans (hb2.mono HX.out.size)); clear hb2
          go_wp2_with fail
          refine (containsFld_any _ 53 _ enters53 _ A9 d9 (HF.out.sub (Below.sub HB2.out)) _ (fun x _ => clos53_any _ x (fitTy_all x.type 0 (by omega) (by omega))) false ((fields_any _).trans (by rw [HY.out]; rfl))).mono ?_
          rintro e w3 ⟨rfl, hb3⟩
          have HB3 := Lib.hid (HB.out.trans ((HB2.out.trans (hb3.mono HB2.out.size)).mono HB.out.size)); clear hb3 d9f
          go_wp2_with fail
          go_roundw
          case rel => exact ⟨k + 1, by omega, by go_num, Pass.next HN.out hlt (by rw [shalD, HZ.out, HY.out]; rfl) HB3.out⟩
          case measure => simp [intOf]; omega
    · have hD := Lib.hid (hw.all (by omega))
      have HB := Lib.hid hw.2
      clear hw
      have g3 := Below.sub HB.out _ _ ((cell_at HA0.out 3).trans rfl)
      go_wp2_with fail
      have Q3' := Lib.hid (Q3.out.sub (Below.sub HB.out))
      obtain ⟨wo, rfl⟩ : ∃ wo : World, wo = wr := ⟨_, rfl⟩
      go_loopw [27] (fun i wz => ∃ k : Nat, k ≤ u.bodies.length ∧ i = .int .i64 k ∧ Pass shalF wo u.bodies k wz) (fun i _ => u.bodies.length - (intOf i).toNat)
      case atStart => exact ⟨0, Nat.zero_le _, rfl, fun _ _ h => absurd h (Nat.not_lt_zero _), Below.refl _ _⟩
      case round =>
        obtain ⟨m, hm, rfl, hw⟩ := hrel
        clear g3 hlt hk
        by_cases hlt : m < u.bodies.length
        · obtain ⟨b, o, hA, A4, d4, e0, e1, e2, e3, e4, p0, p2, p3, p4⟩ := Fn.at Q3'.out.2.2.2 m hlt
          subst hA
          have hsub := Below.sub hw.2
          have HF := Lib.hid (p4.sub hsub)
          have f0 := hsub _ _ e0
          have f1 := hsub _ _ e1
          have f2 := hsub _ _ e2
          have f3 := hsub _ _ e3
          have f4 := hsub _ _ e4
          have HBz := Lib.hid hw.2
          have HN := Lib.hid hw.1
          clear hw hsub e0 e1 e2 e3 e4 p0 p2 p3 p4
          have hbx := (Below.refl wr.heap.size wr).alloc (Nat.le_refl _) (.cells #[.string (u.bodies[m]).name, .bool (u.bodies[m]).weak, .int .i64 (u.bodies[m]).params, .int .i64 (u.bodies[m]).locals, .slice A4 (u.bodies[m]).body.length d4] 67)
          have HX := Lib.hid hbx
          clear hbx
          cases hz : fitStL (u.bodies[m]).body 0 with
          | false =>
            have HZ := Lib.hid hz; clear hz
            go_wp2_with fail
            refine (containsSt_any _ 55 _ enters55 _ A4 d4 (HF.out.sub (Below.sub HX.out)) _ (fun x _ => clos55_any _ x (fitSt_all x 0 (by omega) (by omega))) true ((fitStL_any _ _).trans (by rw [HZ.out]; rfl))).mono ?_
            rintro e w3 ⟨rfl, hb3⟩
            have HB3 := Lib.hid (HBz.out.trans ((HX.out.trans (hb3.mono HX.out.size)).mono HBz.out.size)); clear hb3
            go_wp2_with fail
            refine bodyPost_ret (results_tmp rfl _ _ _) rfl ⟨?_, HB0.out.trans ((HB.out.trans (HB3.out.mono HB.out.size)).mono HB0.out.size)⟩
            rw [shalU, not_all (p := shalF) hlt HZ.out, Bool.and_false]; rfl
          | true =>
            have HZ := Lib.hid hz; clear hz
            go_wp2_with fail
            refine (containsSt_any _ 55 _ enters55 _ A4 d4 (HF.out.sub (Below.sub HX.out)) _ (fun x _ => clos55_any _ x (fitSt_all x 0 (by omega) (by omega))) false ((fitStL_any _ _).trans (by rw [HZ.out]; rfl))).mono ?_
            rintro e w3 ⟨rfl, hb3⟩
            have HB3 := Lib.hid (HBz.out.trans ((HX.out.trans (hb3.mono HX.out.size)).mono HBz.out.size)); clear hb3
            go_wp2_with fail
            go_roundw
            case rel => exact ⟨m + 1, by omega, by go_num, Pass.next HN.out hlt HZ.out HB3.out⟩
            case measure => simp [intOf]; omega
        · have hD2 := Lib.hid (hw.all (by omega))
          have HBz := Lib.hid hw.2
          clear hw
          go_wp2_with fail
          refine bodyPost_ret (results_tmp rfl _ _ _) rfl ⟨?_, HB0.out.trans ((HB.out.trans (HBz.out.mono HB.out.size)).mono HB0.out.size)⟩
          rw [shalU, hD.out, hD2.out]; rfl
end Go.Proofs.Ytghnaaahkbnhlaa
