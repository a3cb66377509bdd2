/-
  The walk of mortiseref7.Methods: the methods of a type, in order. The conditions: what is handed in reads; it is not too great.
-/
import Derived.Test.YtiecbgclkdlpkaaKMethD
namespace Go.Proofs.Ytiecbgclkdlpkaa
open Go.RowKit
set_option linter.unusedVariables false
set_option linter.unusedSimpArgs false
attribute [local irreducible] wpStill wpOrd wpT

/-- A list in order, its fields where they lie. -/
def RMethR (w : World) (l : List Fld) (e : Ending) (w' : World) : Prop := ∃ L A c, IsStable l L ∧ e = .returned (.slice A L.length c) ∧ SL w' 6 (Fld.ds L) L.length A c ∧ Below w.heap.size w w'
theorem RMethR.nil {w w' : World} {e : Ending} (he : e = .returned (.slice none 0 0)) (hb : Below w.heap.size w w') : RMethR w [] e w' := ⟨[], none, 0, IsStable.nil, he, nil_sl _ _, hb⟩
theorem Row.fin {v w w' : World} {base : Nat} {u : Value} {l : List Fld} {U : Cel} {r : Nat → Nat} (h : Row w' base u l.length U r) (hr : ReadV v l U) (hv : Below v.heap.size v w') (hn : l.length ≤ 1000000) (hb : Below w.heap.size w w') : RMethR w l (.returned u) w' := by
  have hp : (pick l r).length = l.length := by simp [pick]
  rcases h.o.cases with ⟨h1, h2⟩ | ⟨g, c, h1, h2, h3, h4, h5⟩
  · obtain rfl : l = [] := List.eq_nil_of_length_eq_zero h2
    subst h1
    exact RMethR.nil rfl hb
  · subst h1
    exact ⟨pick l r, some ⟨g, 0, none⟩, c, hr.stable h.t h.s, by rw [hp], by rw [hp]; exact h5.sl hv hr h.t h3 (by unfold Reach; omega), hb⟩
theorem Row.chg {w w' : World} {base n : Nat} {u : Value} {U : Cel} {r : Nat → Nat} (h : Row w base u n U r) (hc : Chg (fun _ => False) w w') : Row w' base u n U r := ⟨h.o.chg hc, h.t, h.s⟩

set_option maxRecDepth 100000 in
set_option maxHeartbeats 6400000 in
theorem rmeth_other (v w : World) (hvw : Below v.heap.size v w) (us : List Un) (A : Option Addr) (c : Nat) (hl : SL v 4 (Un.ds us) us.length A c) (vars : List Fld) (Av : Option Addr) (cv : Nat) (hva : SL v 6 (Fld.ds vars) vars.length Av cv) (t : Ty) (vs : List Value) (hv : Vals v t.d vs) (hb1 : (rawP us vars t).length ≤ 1000000) (h5 : t.kind ≠ 5) (h8 : t.kind ≠ 8) (h9 : t.kind ≠ 9) :
    Calls Try.prog 36 #[.slice A us.length c, .slice Av vars.length cv, .agg vs.toArray] w (RMethR w (rawP us vars t)) := by
  have HV := Lib.hid hv
  obtain ⟨A3, c3, A4, c4, rfl, q0, q1, q2, q3, q4⟩ := Ty.opn hv
  have HB0 := Lib.hid (show Below w.heap.size w (w.alloc (.cells #[.int .i64 t.kind, .string t.pkg, .string t.name, .slice A3 t.args.length c3, .slice A4 t.res.length c4] 26)) from (Below.refl w.heap.size w).alloc (Nat.le_refl _) _)
  have HT0 := Lib.hid (alloc_at w (.cells #[.int .i64 t.kind, .string t.pkg, .string t.name, .slice A3 t.args.length c3, .slice A4 t.res.length c4] 26))
  have HL := Lib.hid hl; have HVA := Lib.hid hva; have HVW := Lib.hid hvw; have HVS := Lib.hid hvw.size
  have HV1 := Lib.hid (show Below v.heap.size v (w.alloc (.cells #[.int .i64 t.kind, .string t.pkg, .string t.name, .slice A3 t.args.length c3, .slice A4 t.res.length c4] 26)) from hvw.trans ((show Below w.heap.size w (w.alloc (.cells #[.int .i64 t.kind, .string t.pkg, .string t.name, .slice A3 t.args.length c3, .slice A4 t.res.length c4] 26)) from (Below.refl w.heap.size w).alloc (Nat.le_refl _) _).mono hvw.size))
  have H1 := Lib.hid hb1
  have k5 : (t.kind == 5) = false := by simp [h5]
  have k8 : (t.kind == 8) = false := by simp [h8]
  have k9 : (t.kind == 9) = false := by simp [h9]
  have HR := Lib.hid (show rawP us vars t = [] by unfold rawP methT; rw [if_neg h9]; simp only; unfold baseP; rw [if_neg h5]; unfold faceP; rw [if_neg h8]; rfl)
  clear hv q0 q1 q2 q3 q4 hl hva hvw hb1
  clear h5 h8 h9
  go_enter Try.func36, Try.ntmps36
  go_wp2_with fail
  rw [HR.out]
  exact bodyPost_ret (results_tmp rfl _ _ _) rfl (RMethR.nil rfl HB0.out)
set_option maxRecDepth 100000 in
set_option maxHeartbeats 6400000 in
theorem rmeth_ptr (v w : World) (hvw : Below v.heap.size v w) (us : List Un) (A : Option Addr) (c : Nat) (hl : SL v 4 (Un.ds us) us.length A c) (vars : List Fld) (Av : Option Addr) (cv : Nat) (hva : SL v 6 (Fld.ds vars) vars.length Av cv) (t : Ty) (vs : List Value) (hv : Vals v t.d vs) (hb1 : (rawP us vars t).length ≤ 1000000) (hk : t.kind = 5) :
    Calls Try.prog 36 #[.slice A us.length c, .slice Av vars.length cv, .agg vs.toArray] w (RMethR w (rawP us vars t)) := by
  have HV := Lib.hid hv
  obtain ⟨A3, c3, A4, c4, rfl, q0, q1, q2, q3, q4⟩ := Ty.opn hv
  have HB0 := Lib.hid (show Below w.heap.size w (w.alloc (.cells #[.int .i64 t.kind, .string t.pkg, .string t.name, .slice A3 t.args.length c3, .slice A4 t.res.length c4] 26)) from (Below.refl w.heap.size w).alloc (Nat.le_refl _) _)
  have HT0 := Lib.hid (alloc_at w (.cells #[.int .i64 t.kind, .string t.pkg, .string t.name, .slice A3 t.args.length c3, .slice A4 t.res.length c4] 26))
  have HL := Lib.hid hl; have HVA := Lib.hid hva; have HVW := Lib.hid hvw; have HVS := Lib.hid hvw.size
  have HV1 := Lib.hid (show Below v.heap.size v (w.alloc (.cells #[.int .i64 t.kind, .string t.pkg, .string t.name, .slice A3 t.args.length c3, .slice A4 t.res.length c4] 26)) from hvw.trans ((show Below w.heap.size w (w.alloc (.cells #[.int .i64 t.kind, .string t.pkg, .string t.name, .slice A3 t.args.length c3, .slice A4 t.res.length c4] 26)) from (Below.refl w.heap.size w).alloc (Nat.le_refl _) _).mono hvw.size))
  have H1 := Lib.hid hb1
  have k5 : (t.kind == 5) = true := by simp [hk]
  have k8 : (t.kind == 8) = false := by simp [hk]
  have k9 : (t.kind == 9) = false := by simp [hk]
  have HUI := Lib.hid (runit_any (w.alloc (.cells #[.int .i64 t.kind, .string t.pkg, .string t.name, .slice A3 t.args.length c3, .slice A4 t.res.length c4] 26)) us t.pkg A c (hl.sub (Below.sub HV1.out)))
  obtain ⟨un, hun⟩ : ∃ un, un = unitP us t.pkg := ⟨_, rfl⟩
  have HR := Lib.hid (show rawP us vars t = (un.decls.filter (isM t.name)).map fldD by unfold rawP methT; rw [if_neg (by omega)]; simp only; unfold baseP; rw [if_pos hk, hun])
  clear hv q0 q1 q2 q3 q4 hl hva hvw hb1 hk
  rcases unit_split us t.pkg with ⟨hi, hp⟩ | ⟨m, hm, hi, hp⟩
  · have HN := Lib.hid (show rawP us vars t = [] by rw [HR.out, hun, hp]; rfl)
    rw [hi] at HUI
    clear hi hp hun
    go_enter Try.func36, Try.ntmps36
    go_wp2_with fail
    refine HUI.out.mono ?_
    rintro e w' ⟨rfl, rfl⟩
    go_wp2_with fail
    go_loopw [7, 9] (fun x s wr => x = .slice none 0 0 ∧ s = .int .i64 0 ∧ wr = (w.alloc (.cells #[.int .i64 t.kind, .string t.pkg, .string t.name, .slice A3 t.args.length c3, .slice A4 t.res.length c4] 26))) (fun _ _ _ => 0)
    case atStart => exact ⟨rfl, rfl, rfl⟩
    case round =>
      obtain ⟨rfl, rfl, rfl⟩ := hrel
      go_wp2_with fail
      rw [HN.out]
      refine bodyPost_ret (results_tmp rfl _ _ _) rfl ?_
      exact RMethR.nil rfl HB0.out
  rw [hi] at HUI
  rw [hp] at hun
  subst hun
  obtain ⟨bu, ou, hA, A1, c1, A2, c2, A5, c5, e0, e1, e2, e3, q0, q1, q2, q3⟩ := Un.at HL.out.2.2.2 m hm
  subst hA
  have HDL := Lib.hid q2
  have E2 := Lib.hid e2
  have hun := q2.2.2.1
  unfold Reach at hun
  have hm' : (m : Int) < us.length := by omega
  have hm0 : (0 : Int) ≤ (m : Int) := by omega
  have hrl := HL.out.2.2.1
  unfold Reach at hrl
  clear hi hp e0 e1 e2 e3 q0 q1 q2 q3
  go_enter Try.func36, Try.ntmps36
  go_wp2_with fail
  refine HUI.out.mono ?_
  rintro e w' ⟨rfl, rfl⟩
  go_wp2_with fail
  obtain ⟨wz, hz⟩ : ∃ x, x = (w.alloc (.cells #[.int .i64 t.kind, .string t.pkg, .string t.name, .slice A3 t.args.length c3, .slice A4 t.res.length c4] 26)) := ⟨_, rfl⟩
  have hb := HB0.out; have ht := HT0.out; have hv1 := HV1.out
  rw [← hz] at hb ht hv1
  rw [← hz]
  clear hz HB0 HT0 HV1 HUI
  have HB := Lib.hid hb; have HT := Lib.hid ht; have HVZ := Lib.hid hv1; have HZS := Lib.hid (lt_of_block ht)
  clear hb ht hv1
  go_loopw [7, 9] (fun s i wr => ∃ (k : Nat) (U : Cel) (r : Nat → Nat), k ≤ us[m].decls.length ∧ i = .int .i64 k ∧ Row wr (w.heap.size + 1) s (((us[m].decls.take k).filter (isM t.name)).map fldD).length U r ∧ ReadV v (((us[m].decls.take k).filter (isM t.name)).map fldD) U ∧ Below (w.heap.size + 1) wz wr) (fun s i _ => us[m].decls.length - (intOf i).toNat)
  case atStart => exact ⟨0, cel0, id, Nat.zero_le _, rfl, Row.nil _ _ _, ReadV.nil _ _, Below.refl _ _⟩
  case round =>
    obtain ⟨k, U, r, hk, rfl, ho, hr, hb⟩ := hrel
    have HO := Lib.hid ho; have HRU := Lib.hid hr; have HBZ := Lib.hid hb
    have HTR := Lib.hid ((hb.block _ (by omega)).trans HT.out)
    have HBR := Lib.hid (show Below w.heap.size w wr from HB.out.trans (hb.mono (by omega)))
    have HVR := Lib.hid (show Below v.heap.size v wr from HVW.out.trans (HBR.out.mono HVS.out))
    have HSR := Lib.hid (show w.heap.size < wr.heap.size from lt_of_block HTR.out)
    have u2_ := Below.sub HVR.out _ _ E2.out
    clear ho hr hb
    by_cases hlt : k < us[m].decls.length
    case neg =>
      obtain rfl : k = us[m].decls.length := by omega
      have hlt' : ¬ (us[m].decls.length : Int) < us[m].decls.length := by omega
      have HRL := Lib.hid (show rawP us vars t = ((us[m].decls.take us[m].decls.length).filter (isM t.name)).map fldD by rw [List.take_length]; exact HR.out)
      have HFN := Lib.hid (HO.out.fin HRU.out HVR.out (by have := H1.out; rw [HRL.out] at this; exact this) HBR.out)
      go_wp2_with fail
      rw [HRL.out]
      refine bodyPost_ret (results_tmp rfl _ _ _) rfl ?_
      exact HFN.out
    have hlt' : (k : Int) < us[m].decls.length := by omega
    obtain ⟨bb, o, hA, A7, c7, A8, c8, A9, c9, e0, e1, e2, e3, e4, e5, e6, e7, e8, e9, q0, q1, q2, q3, q4, q5, q6, q7, q8, q9⟩ := Dcl.at HDL.out.2.2.2 k hlt
    subst hA
    have hsub := Below.sub HVR.out
    have f0 := hsub _ _ e0; have f1 := hsub _ _ e1; have f2 := hsub _ _ e2; have f3 := hsub _ _ e3; have f4 := hsub _ _ e4; have f5 := hsub _ _ e5; have f6 := hsub _ _ e6; have f7 := hsub _ _ e7; have f8 := hsub _ _ e8; have f9 := hsub _ _ e9
    have HVF := Lib.hid (Fld.shut (w := v) (t := fldD us[m].decls[k]) q1 q4 q5 q6 q7 q8)
    have HFT := Lib.hid (filter_take (isM t.name) us[m].decls k hlt)
    have n2_ : wr.cell? ⟨w.heap.size, 2, none⟩ = some (.string t.name) := (cell_at HTR.out 2).trans rfl
    have nlt_ := HSR.out
    clear hsub e0 e1 e2 e3 e4 e5 e6 e7 e8 e9 q0 q1 q2 q3 q4 q5 q6 q7 q8 q9
    cases z6 : (us[m].decls[k].kind == 6) with
    | false =>
      have HSN := Lib.hid (show ((us[m].decls.take (k + 1)).filter (isM t.name)).map fldD = ((us[m].decls.take k).filter (isM t.name)).map fldD by
        rw [HFT.out, if_neg (by unfold isM; rw [z6]; simp), List.append_nil])
      go_wp2_with fail
      go_roundw
      case rel => exact ⟨k + 1, U, r, by omega, by go_num, by rw [HSN.out]; exact HO.out.chg ((Chg.refl _ _).alloc _), by rw [HSN.out]; exact HRU.out, HBZ.out.alloc (by omega) _⟩
      case measure => simp [intOf]; omega
    | true =>
      cases zn : (us[m].decls[k].of.toList == t.name.toList) with
      | false =>
        have HSN := Lib.hid (show ((us[m].decls.take (k + 1)).filter (isM t.name)).map fldD = ((us[m].decls.take k).filter (isM t.name)).map fldD by
          rw [HFT.out, if_neg (by unfold isM; rw [zn]; simp), List.append_nil])
        go_wp2_with fail
        go_roundw
        case rel => exact ⟨k + 1, U, r, by omega, by go_num, by rw [HSN.out]; exact HO.out.chg ((Chg.refl _ _).alloc _), by rw [HSN.out]; exact HRU.out, HBZ.out.alloc (by omega) _⟩
        case measure => simp [intOf]; omega
      | true =>
        have HSN := Lib.hid (show ((us[m].decls.take (k + 1)).filter (isM t.name)).map fldD = ((us[m].decls.take k).filter (isM t.name)).map fldD ++ [fldD us[m].decls[k]] by
          rw [HFT.out, if_pos (by unfold isM; rw [z6, zn]; rfl), List.map_append]; rfl)
        obtain ⟨pre, hpre⟩ : ∃ p, p = ((us[m].decls.take k).filter (isM t.name)).map fldD := ⟨_, rfl⟩
        have HPL := Lib.hid (show pre.length + 1 ≤ 1000000 by
          have h1 := H1.out
          rw [HR.out] at h1
          have h2 : (((us[m].decls.take (k + 1)).filter (isM t.name)).map fldD).length ≤ ((us[m].decls.filter (isM t.name)).map fldD).length := by
            rw [List.length_map, List.length_map]
            exact ((List.take_sublist _ _).filter _).length_le
          rw [HSN.out, List.length_append] at h2
          rw [hpre]; simp only [List.length_singleton] at h2; omega)
        rw [← hpre] at HO HRU HSN
        clear hpre
        have HPU := Lib.hid (rput_any (wr.alloc (.cells #[.int .i64 us[m].decls[k].kind, .string us[m].decls[k].name, .string us[m].decls[k].of, .int .i64 us[m].decls[k].value, .int .i64 us[m].decls[k].type.kind, .string us[m].decls[k].type.pkg, .string us[m].decls[k].type.name, .slice A7 us[m].decls[k].type.args.length c7, .slice A8 us[m].decls[k].type.res.length c8, .slice A9 us[m].decls[k].fields.length c9] 46)) (w.heap.size + 1) u7 pre v U r HPL.out (HO.out.chg ((Chg.refl _ _).alloc _)) (by simp; omega) HRU.out (fldD us[m].decls[k]) A7 c7 A8 c8 HVF.out)
        have HBA := Lib.hid (HBZ.out.alloc (by omega) (.cells #[.int .i64 us[m].decls[k].kind, .string us[m].decls[k].name, .string us[m].decls[k].of, .int .i64 us[m].decls[k].value, .int .i64 us[m].decls[k].type.kind, .string us[m].decls[k].type.pkg, .string us[m].decls[k].type.name, .slice A7 us[m].decls[k].type.args.length c7, .slice A8 us[m].decls[k].type.res.length c8, .slice A9 us[m].decls[k].fields.length c9] 46))
        go_wp2_with fail
        refine HPU.out.mono ?_
        rintro e w2 ⟨u', U', r', rfl, hr2, hv2, hb2⟩
        have HR2 := Lib.hid hr2; have HV2 := Lib.hid hv2; have HB2 := Lib.hid (HBA.out.trans hb2)
        clear hr2 hv2 hb2
        go_wp2_with fail
        go_roundw
        case rel => exact ⟨k + 1, U', r', by omega, by go_num, by rw [HSN.out]; exact HR2.out, by rw [HSN.out]; exact HV2.out, HB2.out⟩
        case measure => simp [intOf]; omega
set_option maxRecDepth 100000 in
set_option maxHeartbeats 6400000 in
theorem rmeth_face (v w : World) (hvw : Below v.heap.size v w) (us : List Un) (A : Option Addr) (c : Nat) (hl : SL v 4 (Un.ds us) us.length A c) (vars : List Fld) (Av : Option Addr) (cv : Nat) (hva : SL v 6 (Fld.ds vars) vars.length Av cv) (t : Ty) (vs : List Value) (hv : Vals v t.d vs) (hb1 : (rawP us vars t).length ≤ 1000000) (hk : t.kind = 8) :
    Calls Try.prog 36 #[.slice A us.length c, .slice Av vars.length cv, .agg vs.toArray] w (RMethR w (rawP us vars t)) := by
  have HV := Lib.hid hv
  obtain ⟨A3, c3, A4, c4, rfl, q0, q1, q2, q3, q4⟩ := Ty.opn hv
  have HB0 := Lib.hid (show Below w.heap.size w (w.alloc (.cells #[.int .i64 t.kind, .string t.pkg, .string t.name, .slice A3 t.args.length c3, .slice A4 t.res.length c4] 26)) from (Below.refl w.heap.size w).alloc (Nat.le_refl _) _)
  have HT0 := Lib.hid (alloc_at w (.cells #[.int .i64 t.kind, .string t.pkg, .string t.name, .slice A3 t.args.length c3, .slice A4 t.res.length c4] 26))
  have HL := Lib.hid hl; have HVA := Lib.hid hva; have HVW := Lib.hid hvw; have HVS := Lib.hid hvw.size
  have HV1 := Lib.hid (show Below v.heap.size v (w.alloc (.cells #[.int .i64 t.kind, .string t.pkg, .string t.name, .slice A3 t.args.length c3, .slice A4 t.res.length c4] 26)) from hvw.trans ((show Below w.heap.size w (w.alloc (.cells #[.int .i64 t.kind, .string t.pkg, .string t.name, .slice A3 t.args.length c3, .slice A4 t.res.length c4] 26)) from (Below.refl w.heap.size w).alloc (Nat.le_refl _) _).mono hvw.size))
  have H1 := Lib.hid hb1
  have k5 : (t.kind == 5) = false := by simp [hk]
  have k8 : (t.kind == 8) = true := by simp [hk]
  have k9 : (t.kind == 9) = false := by simp [hk]
  have HFI := Lib.hid (rfind_any v (w.alloc (.cells #[.int .i64 t.kind, .string t.pkg, .string t.name, .slice A3 t.args.length c3, .slice A4 t.res.length c4] 26)) HV1.out us t.pkg t.name A c hl)
  obtain ⟨fr, hfr⟩ : ∃ r, r = findP us t.pkg t.name := ⟨_, rfl⟩
  rw [← hfr] at HFI
  have HR := Lib.hid (show rawP us vars t = ((fr.filter (fun d => decide (d.kind = 4))).map (·.fields)).getD [] by unfold rawP methT; rw [if_neg (by omega)]; simp only; unfold baseP; rw [if_neg (by omega)]; unfold faceP; rw [if_pos hk, hfr])
  clear hv q0 q1 q2 q3 q4 hl hva hvw hb1 hk hfr
  go_enter Try.func36, Try.ntmps36
  go_wp2_with fail
  refine HFI.out.mono ?_
  obtain ⟨d, hd⟩ : ∃ d, d = fr.getD dcl0 := ⟨_, rfl⟩
  obtain ⟨q, hq⟩ : ∃ q, q = fr.isSome := ⟨_, rfl⟩
  rintro e w1 ⟨vs, he, hv, hb⟩
  rw [← hq] at he
  rw [← hd] at hv
  subst he
  have HDE := Lib.hid hd; have HQE := Lib.hid hq
  obtain ⟨A7, c7, A8, c8, A9, c9, rfl, y0, y1, y2, y3, y4, y5, y6, y7, y8, y9⟩ := Dcl.opn hv
  have HSF := Lib.hid y9
  have hfl := y9.2.2.1
  unfold Reach at hfl
  have HB1 := Lib.hid (HB0.out.trans (hb.mono HB0.out.size))
  clear hv hb hd hq y0 y1 y2 y3 y4 y5 y6 y7 y8 y9 HFI
  go_wp2_with fail
  obtain ⟨wz, hz⟩ : ∃ x, x = w1.alloc (.cells #[.int .i64 d.kind, .string d.name, .string d.of, .int .i64 d.value, .int .i64 d.type.kind, .string d.type.pkg, .string d.type.name, .slice A7 d.type.args.length c7, .slice A8 d.type.res.length c8, .slice A9 d.fields.length c9] 46) := ⟨_, rfl⟩
  have hb2 := HB1.out.alloc HB1.out.size (.cells #[.int .i64 d.kind, .string d.name, .string d.of, .int .i64 d.value, .int .i64 d.type.kind, .string d.type.pkg, .string d.type.name, .slice A7 d.type.args.length c7, .slice A8 d.type.res.length c8, .slice A9 d.fields.length c9] 46)
  have hd2 := alloc_at w1 (.cells #[.int .i64 d.kind, .string d.name, .string d.of, .int .i64 d.value, .int .i64 d.type.kind, .string d.type.pkg, .string d.type.name, .slice A7 d.type.args.length c7, .slice A8 d.type.res.length c8, .slice A9 d.fields.length c9] 46)
  rw [← hz] at hb2 hd2
  rw [← hz]
  clear hz
  have HB2 := Lib.hid hb2; have HD2 := Lib.hid hd2
  clear hb2 hd2
  by_cases hq4 : q = true ∧ d.kind = 4
  case neg =>
    have HN := Lib.hid (show rawP us vars t = [] by
      rw [HR.out]
      have h1 := HDE.out; have h2 := HQE.out
      cases fr with
      | none => rfl
      | some x =>
        have h1 : d = x := h1
        subst h1
        have : ¬ d.kind = 4 := fun h => hq4 ⟨h2, h⟩
        exact show ((Option.map (·.fields) (if decide (d.kind = 4) = true then some d else none)).getD []) = [] by rw [if_neg (by simpa using this)]; rfl)
    have kq : ∃ b : Bool, (d.kind == 4) = b ∧ (q = false ∨ (q = true ∧ b = false)) := ⟨_, rfl, by
      cases q with
      | false => exact .inl rfl
      | true => exact .inr ⟨rfl, by simp; exact fun h => hq4 ⟨rfl, h⟩⟩⟩
    obtain ⟨b4, kb4, kq⟩ := kq
    clear hq4
    go_loopw [7, 13] (fun x s wr => x = .slice none 0 0 ∧ s = .int .i64 0 ∧ wr = wz) (fun _ _ _ => 0)
    case atStart => exact ⟨rfl, rfl, rfl⟩
    case round =>
      obtain ⟨rfl, rfl, rfl⟩ := hrel
      have d0_ : wr.cell? ⟨w1.heap.size, 0, none⟩ = some (.int .i64 d.kind) := (cell_at HD2.out 0).trans rfl
      rcases kq with rfl | ⟨rfl, rfl⟩
      all_goals
        go_wp2_with fail
        rw [HN.out]
        refine bodyPost_ret (results_tmp rfl _ _ _) rfl ?_
        exact RMethR.nil rfl HB2.out
  obtain ⟨rfl, h4⟩ := hq4
  have k4 : (d.kind == 4) = true := by simp [h4]
  have HRL := Lib.hid (show rawP us vars t = d.fields by
    rw [HR.out]
    have h1 := HDE.out; have h2 := HQE.out
    cases fr with
    | none => cases h2
    | some x =>
      have h1 : d = x := h1
      subst h1
      exact show ((Option.map (·.fields) (if decide (d.kind = 4) = true then some d else none)).getD []) = d.fields by rw [if_pos (by simpa using h4)]; rfl)
  clear h4
  have hz2 := lt_of_block HD2.out
  have HZ2 := Lib.hid hz2
  clear hz2
  go_loopw [7, 13] (fun s i wr => ∃ (k : Nat) (U : Cel) (r : Nat → Nat), k ≤ d.fields.length ∧ i = .int .i64 k ∧ Row wr wz.heap.size s (d.fields.take k).length U r ∧ ReadV v (d.fields.take k) U ∧ Below wz.heap.size wz wr) (fun s i _ => d.fields.length - (intOf i).toNat)
  case atStart => exact ⟨0, cel0, id, Nat.zero_le _, rfl, Row.nil _ _ _, ReadV.nil _ _, Below.refl _ _⟩
  case round =>
    obtain ⟨k, U, r, hk, rfl, ho, hr, hb⟩ := hrel
    have HO := Lib.hid ho; have HRU := Lib.hid hr; have HBZ := Lib.hid hb
    have HDR := Lib.hid ((hb.block _ HZ2.out).trans HD2.out)
    have HBR := Lib.hid (show Below w.heap.size w wr from HB2.out.trans (hb.mono HB2.out.size))
    have HVR := Lib.hid (show Below v.heap.size v wr from HVW.out.trans (HBR.out.mono HVS.out))
    have d0_ : wr.cell? ⟨w1.heap.size, 0, none⟩ = some (.int .i64 d.kind) := (cell_at HDR.out 0).trans rfl
    have d9_ : wr.cell? ⟨w1.heap.size, 9, none⟩ = some (.slice A9 d.fields.length c9) := (cell_at HDR.out 9).trans rfl
    clear ho hr hb
    by_cases hlt : k < d.fields.length
    case neg =>
      obtain rfl : k = d.fields.length := by omega
      have hlt' : ¬ (d.fields.length : Int) < d.fields.length := by omega
      have hrow := HO.out; have hrv := HRU.out
      rw [List.take_length] at hrow hrv
      have HFN := Lib.hid (hrow.fin hrv HVR.out (by have := H1.out; rw [HRL.out] at this; exact this) HBR.out)
      clear hrow hrv
      go_wp2_with fail
      rw [HRL.out]
      refine bodyPost_ret (results_tmp rfl _ _ _) rfl ?_
      exact HFN.out
    have hlt' : (k : Int) < d.fields.length := by omega
    obtain ⟨bb, o, hA, A4, c4, A5, c5, e0, e1, e2, e3, e4, e5, q0, q1, q2, q3, q4, q5⟩ := Fld.at HSF.out.2.2.2 k hlt
    subst hA
    have hsub := Below.sub HVR.out
    have f0 := hsub _ _ e0; have f1 := hsub _ _ e1; have f2 := hsub _ _ e2; have f3 := hsub _ _ e3; have f4 := hsub _ _ e4; have f5 := hsub _ _ e5
    have HVF := Lib.hid (Fld.shut (w := v) (t := d.fields[k]) q0 q1 q2 q3 q4 q5)
    have HSN := Lib.hid (show d.fields.take (k + 1) = d.fields.take k ++ [d.fields[k]] from List.take_succ_eq_append_getElem hlt)
    have HPL := Lib.hid (show (d.fields.take k).length + 1 ≤ 1000000 by
      have h1 := H1.out
      rw [HRL.out] at h1
      rw [List.length_take]; omega)
    clear hsub e0 e1 e2 e3 e4 e5 q0 q1 q2 q3 q4 q5
    have HPU := Lib.hid (rput_any wr wz.heap.size u7 (d.fields.take k) v U r HPL.out HO.out HBZ.out.size HRU.out d.fields[k] A4 c4 A5 c5 HVF.out)
    go_wp2_with fail
    refine HPU.out.mono ?_
    rintro e w2 ⟨u', U', r', rfl, hr2, hv2, hb2⟩
    have HR2 := Lib.hid hr2; have HV2 := Lib.hid hv2; have HB3 := Lib.hid (HBZ.out.trans hb2)
    clear hr2 hv2 hb2
    go_wp2_with fail
    go_roundw
    case rel => exact ⟨k + 1, U', r', by omega, by go_num, by rw [HSN.out]; exact HR2.out, by rw [HSN.out]; exact HV2.out, HB3.out⟩
    case measure => simp [intOf]; omega
theorem rmeth_base (v w : World) (hvw : Below v.heap.size v w) (us : List Un) (A : Option Addr) (c : Nat) (hl : SL v 4 (Un.ds us) us.length A c) (vars : List Fld) (Av : Option Addr) (cv : Nat) (hva : SL v 6 (Fld.ds vars) vars.length Av cv) (t : Ty) (vs : List Value) (hv : Vals v t.d vs) (hb1 : (rawP us vars t).length ≤ 1000000) (h9 : t.kind ≠ 9) :
    Calls Try.prog 36 #[.slice A us.length c, .slice Av vars.length cv, .agg vs.toArray] w (RMethR w (rawP us vars t)) := by
  by_cases h5 : t.kind = 5
  · exact rmeth_ptr v w hvw us A c hl vars Av cv hva t vs hv hb1 h5
  by_cases h8 : t.kind = 8
  · exact rmeth_face v w hvw us A c hl vars Av cv hva t vs hv hb1 h8
  exact rmeth_other v w hvw us A c hl vars Av cv hva t vs hv hb1 h5 h8 h9
theorem known_split (vars : List Fld) (s : ByteArray) : (knownI vars s = -1 ∧ mustP vars s = ty0) ∨ ∃ (n : Nat) (hn : n < vars.length), knownI vars s = (n : Int) ∧ mustP vars s = vars[n].type := by
  unfold knownI mustP
  cases h : vars.findIdx? (isV s) with
  | none =>
    refine .inl ⟨rfl, ?_⟩
    rw [find_miss (fun j hj => List.findIdx?_eq_none_iff.1 h _ (List.getElem_mem hj))]; rfl
  | some n =>
    obtain ⟨hn, h1, h2⟩ := List.findIdx?_eq_some_iff_getElem.1 h
    refine .inr ⟨n, hn, rfl, ?_⟩
    rw [find_hit hn (fun j hj hlt => by have := h2 j hlt; simpa using this) h1]; rfl
set_option maxRecDepth 100000 in
set_option maxHeartbeats 6400000 in
theorem rmeth_var (v w : World) (hvw : Below v.heap.size v w) (us : List Un) (A : Option Addr) (c : Nat) (hl : SL v 4 (Un.ds us) us.length A c) (vars : List Fld) (Av : Option Addr) (cv : Nat) (hva : SL v 6 (Fld.ds vars) vars.length Av cv) (t : Ty) (vs : List Value) (hv : Vals v t.d vs) (hb1 : (rawP us vars t).length ≤ 1000000) (hk : t.kind = 9) :
    Calls Try.prog 36 #[.slice A us.length c, .slice Av vars.length cv, .agg vs.toArray] w (RMethR w (rawP us vars t)) := by
  have HV := Lib.hid hv
  obtain ⟨A3, c3, A4, c4, rfl, q0, q1, q2, q3, q4⟩ := Ty.opn hv
  have HB0 := Lib.hid (show Below w.heap.size w (w.alloc (.cells #[.int .i64 t.kind, .string t.pkg, .string t.name, .slice A3 t.args.length c3, .slice A4 t.res.length c4] 26)) from (Below.refl w.heap.size w).alloc (Nat.le_refl _) _)
  have HT0 := Lib.hid (alloc_at w (.cells #[.int .i64 t.kind, .string t.pkg, .string t.name, .slice A3 t.args.length c3, .slice A4 t.res.length c4] 26))
  have HL := Lib.hid hl; have HVA := Lib.hid hva; have HVW := Lib.hid hvw; have HVS := Lib.hid hvw.size
  have HV1 := Lib.hid (show Below v.heap.size v (w.alloc (.cells #[.int .i64 t.kind, .string t.pkg, .string t.name, .slice A3 t.args.length c3, .slice A4 t.res.length c4] 26)) from hvw.trans ((show Below w.heap.size w (w.alloc (.cells #[.int .i64 t.kind, .string t.pkg, .string t.name, .slice A3 t.args.length c3, .slice A4 t.res.length c4] 26)) from (Below.refl w.heap.size w).alloc (Nat.le_refl _) _).mono hvw.size))
  have H1 := Lib.hid hb1
  have k5 : (t.kind == 5) = false := by simp [hk]
  have k8 : (t.kind == 8) = false := by simp [hk]
  have k9 : (t.kind == 9) = true := by simp [hk]
  have HKN := Lib.hid (known_any (w.alloc (.cells #[.int .i64 t.kind, .string t.pkg, .string t.name, .slice A3 t.args.length c3, .slice A4 t.res.length c4] 26)) vars t.name Av cv (hva.sub (Below.sub HV1.out)))
  have HRW := Lib.hid (show rawP us vars t = if (mustP vars t.name).kind = 8 then baseP us (mustP vars t.name) else [] by
    unfold rawP methT; rw [if_pos hk]
    split
    · rename_i h; split at h
      · cases h
      · rename_i h8; rw [if_neg h8]
    · rename_i u h; split at h
      · rename_i h8; injection h with h; rw [if_pos h8, h]
      · cases h)
  have hvl := hva.2.2.1
  unfold Reach at hvl
  clear hv q0 q1 q2 q3 q4 hl hva hvw hb1 hk
  rcases known_split vars t.name with ⟨hi, hp⟩ | ⟨m, hm, hi, hp⟩
  · have HN := Lib.hid (show rawP us vars t = [] by rw [HRW.out, hp]; rfl)
    rw [hi] at HKN
    clear hi hp
    go_enter Try.func36, Try.ntmps36
    go_wp2_with fail
    refine HKN.out.mono ?_
    rintro e w' ⟨rfl, rfl⟩
    go_wp2_with fail
    rw [HN.out]
    refine bodyPost_ret (results_tmp rfl _ _ _) rfl ?_
    exact RMethR.nil rfl HB0.out
  rw [hi] at HKN
  rw [hp] at HRW
  obtain ⟨bu, ou, hA, A5, c5, A6, c6, e0, e1, e2, e3, e4, e5, q0, q1, q2, q3, q4, q5⟩ := Fld.at HVA.out.2.2.2 m hm
  subst hA
  have hsub := Below.sub HV1.out
  have f0 := hsub _ _ e0; have f1 := hsub _ _ e1; have f2 := hsub _ _ e2; have f3 := hsub _ _ e3; have f4 := hsub _ _ e4; have f5 := hsub _ _ e5
  have HVT := Lib.hid (Ty.shut (w := v) (t := vars[m].type) q1 q2 q3 q4 q5)
  have hm' : (m : Int) < vars.length := by omega
  have hm0 : (0 : Int) ≤ (m : Int) := by omega
  clear hi hp hsub e0 e1 e2 e3 e4 e5 q0 q1 q2 q3 q4 q5
  by_cases h8 : vars[m].type.kind = 8
  · have kv : (vars[m].type.kind == 8) = true := by simp [h8]
    have HRB := Lib.hid (show rawP us vars t = rawP us [] vars[m].type by
      rw [HRW.out, if_pos h8]; unfold rawP methT; rw [if_neg (by omega)])
    have HB := Lib.hid (rmeth_base v (w.alloc (.cells #[.int .i64 t.kind, .string t.pkg, .string t.name, .slice A3 t.args.length c3, .slice A4 t.res.length c4] 26)) HV1.out us A c HL.out [] none 0 (nil_sl v 6) vars[m].type _ HVT.out (by rw [← HRB.out]; exact H1.out) (by omega))
    clear h8
    go_enter Try.func36, Try.ntmps36
    go_wp2_with fail
    refine HKN.out.mono ?_
    rintro e w' ⟨rfl, rfl⟩
    go_wp2_with fail
    refine HB.out.mono ?_
    rintro e w2 ⟨L, A', c', hs, rfl, hsl, hb⟩
    have HS := Lib.hid hs; have HSL := Lib.hid hsl; have HBB := Lib.hid (HB0.out.trans (hb.mono HB0.out.size))
    clear hs hsl hb
    go_wp2_with fail
    refine bodyPost_ret (results_tmp rfl _ _ _) rfl ?_
    exact ⟨L, A', c', by rw [HRB.out]; exact HS.out, rfl, HSL.out, HBB.out⟩
  · have kv : (vars[m].type.kind == 8) = false := by simp [h8]
    have HN := Lib.hid (show rawP us vars t = [] by rw [HRW.out, if_neg h8])
    clear h8
    go_enter Try.func36, Try.ntmps36
    go_wp2_with fail
    refine HKN.out.mono ?_
    rintro e w' ⟨rfl, rfl⟩
    go_wp2_with fail
    rw [HN.out]
    refine bodyPost_ret (results_tmp rfl _ _ _) rfl ?_
    exact RMethR.nil rfl HB0.out
theorem rmeth_any (v w : World) (hvw : Below v.heap.size v w) (us : List Un) (A : Option Addr) (c : Nat) (hl : SL v 4 (Un.ds us) us.length A c) (vars : List Fld) (Av : Option Addr) (cv : Nat) (hva : SL v 6 (Fld.ds vars) vars.length Av cv) (t : Ty) (vs : List Value) (hv : Vals v t.d vs) (hb1 : (rawP us vars t).length ≤ 1000000) :
    Calls Try.prog 36 #[.slice A us.length c, .slice Av vars.length cv, .agg vs.toArray] w (RMethR w (rawP us vars t)) := by
  by_cases h9 : t.kind = 9
  · exact rmeth_var v w hvw us A c hl vars Av cv hva t vs hv hb1 h9
  · exact rmeth_base v w hvw us A c hl vars Av cv hva t vs hv hb1 h9
end Go.Proofs.Ytiecbgclkdlpkaa
