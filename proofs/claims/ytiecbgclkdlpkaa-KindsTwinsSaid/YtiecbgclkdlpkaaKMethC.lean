/-
  The walk of kinds.Methods: the methods of a type, in order. The conditions: what is handed in reads; it is not too great.
-/
import Derived.Test.YtiecbgclkdlpkaaKMethB
import Derived.Deep.Cut
import Derived.Deep.CutRange
import Derived.Deep.DeepCutAuto
namespace Go.Proofs.Ytiecbgclkdlpkaa
open Go.RowKit
set_option linter.unusedVariables false
set_option linter.unusedSimpArgs false
attribute [local irreducible] wpStill wpOrd wpT

def isM (s : ByteArray) (d : Dcl) : Bool := (d.kind == 6) && (d.of.toList == s.toList)
def fldD (d : Dcl) : Fld := ⟨d.name, d.type⟩
/-- What a type itself has, as it stands. -/
def baseP (us : List Un) (t : Ty) : List Fld := if t.kind = 5 then ((unitP us t.pkg).decls.filter (isM t.name)).map fldD else ((faceP us t).map (·.fields)).getD []
def methT (vars : List Fld) (t : Ty) : Option Ty := if t.kind = 9 then (if (mustP vars t.name).kind = 8 then some (mustP vars t.name) else none) else some t
def rawP (us : List Un) (vars : List Fld) (t : Ty) : List Fld := match methT vars t with | none => [] | some u => baseP us u
theorem filter_take {α : Type} (p : α → Bool) (l : List α) (k : Nat) (h : k < l.length) : (l.take (k + 1)).filter p = (l.take k).filter p ++ (if p l[k] = true then [l[k]] else []) := by
  rw [List.take_succ_eq_append_getElem h, List.filter_append]
  congr 1
  cases hp : p l[k] <;> simp [hp]
/-- A list in order in a row made anew. -/
def MethR (w : World) (l : List Fld) (e : Ending) (w' : World) : Prop := ∃ L, IsStable l L ∧ NewL w Fld.d 6 L e w'
theorem OwnS.grown {w : World} {base k : Nat} {u : Value} {V : Cel} {q : Nat → Nat} (h : OwnS w base u k V q) {x : Nat} (hx : u.ownBlock = some x) : base ≤ x ∧ x < w.heap.size := by
  obtain ⟨xs, ho, _⟩ := h
  exact ho.lt x hx

set_option maxRecDepth 100000 in
set_option maxHeartbeats 6400000 in
theorem kmeth_any (v w : World) (hvw : Below v.heap.size v w) (us : List Un) (A : Option Addr) (c : Nat) (hl : SL v 4 (Un.ds us) us.length A c) (vars : List Fld) (Av : Option Addr) (cv : Nat) (hva : SL v 6 (Fld.ds vars) vars.length Av cv) (t : Ty) (vs : List Value) (hv : Vals v t.d vs)
    (hb1 : (rawP us vars t).length ≤ 1000000) (hb2 : ∀ f ∈ rawP us vars t, f.type.sz ≤ 1000000) (hb3 : (unitP us t.pkg).decls.length ≤ 1000000) :
    Calls Try.prog 34 #[.slice A us.length c, .slice Av vars.length cv, .agg vs.toArray] w (MethR w (rawP us vars t)) := by
  have HV := Lib.hid hv
  obtain ⟨A3, c3, A4, c4, rfl, q0, q1, q2, q3, q4⟩ := Ty.opn hv
  have HB0 := Lib.hid (show Below w.heap.size w (w.alloc (.cells #[.int .i64 t.kind, .string t.pkg, .string t.name, .slice A3 t.args.length c3, .slice A4 t.res.length c4] 26)) from (Below.refl w.heap.size w).alloc (Nat.le_refl _) _)
  have HT0 := Lib.hid (alloc_at w (.cells #[.int .i64 t.kind, .string t.pkg, .string t.name, .slice A3 t.args.length c3, .slice A4 t.res.length c4] 26))
  have HL := Lib.hid hl; have HVA := Lib.hid hva; have HVW := Lib.hid hvw; have H1 := Lib.hid hb1; have H2 := Lib.hid hb2; have H3 := Lib.hid hb3
  have HVS := Lib.hid hvw.size
  have HMU := Lib.hid (must_any v (w.alloc (.cells #[.int .i64 t.kind, .string t.pkg, .string t.name, .slice A3 t.args.length c3, .slice A4 t.res.length c4] 26)) (hvw.trans (HB0.out.mono hvw.size)) vars t.name Av cv hva)
  clear hv q0 q1 q2 q3 q4 hl hva hvw hb1 hb2 hb3
  obtain ⟨raw, hraw⟩ : ∃ raw, raw = rawP us vars t := ⟨_, rfl⟩
  rw [← hraw] at H1 H2
  rw [← hraw]
  have HRW := Lib.hid hraw
  clear hraw
  go_enter Try.func34, Try.ntmps34
  go_upto_if 14 with (fail)
  go_cut [] from 12 to 21 (fun wx => ∃ (x : Ty) (B3 : Option Addr) (d3 : Nat) (B4 : Option Addr) (d4 : Nat), methT vars t = some x ∧ wx.heap[w.heap.size]? = some (.cells #[.int .i64 x.kind, .string x.pkg, .string x.name, .slice B3 x.args.length d3, .slice B4 x.res.length d4] 26 (0, 0)) ∧ Vals v x.d [.int .i64 x.kind, .string x.pkg, .string x.name, .slice B3 x.args.length d3, .slice B4 x.res.length d4] ∧ Below w.heap.size w wx)
  case first =>
    by_cases hk : t.kind = 9
    case neg =>
      have kb : (t.kind == 9) = false := by simp [hk]
      have HM := Lib.hid (show methT vars t = some t by unfold methT; rw [if_neg hk])
      clear hk
      go_wp2_with fail
      go_meet
      case rel => exact ⟨t, A3, c3, A4, c4, HM.out, HT0.out, HV.out, HB0.out⟩
    have kb : (t.kind == 9) = true := by simp [hk]
    obtain ⟨u, hu⟩ : ∃ u, u = mustP vars t.name := ⟨_, rfl⟩
    have HM := Lib.hid (show methT vars t = if u.kind = 8 then some u else none by unfold methT; rw [if_pos hk, hu])
    rw [← hu] at HMU
    clear hk hu
    go_wp2_with fail
    refine HMU.out.mono ?_
    rintro e w1 ⟨us_, rfl, hv1, hb⟩
    have HV1 := Lib.hid hv1
    obtain ⟨B3, d3, B4, d4, rfl, y0, y1, y2, y3, y4⟩ := Ty.opn hv1
    have HB1 := Lib.hid (HB0.out.trans (hb.mono HB0.out.size))
    have HT1 := Lib.hid ((hb.block _ (lt_of_block HT0.out)).trans HT0.out)
    clear hv1 hb y0 y1 y2 y3 y4
    have r0_ : w1.cell? ⟨w.heap.size, 0, none⟩ = some (.int .i64 t.kind) := (cell_at HT1.out 0).trans rfl
    have s0_ : w1.frozen? ⟨w.heap.size, 0, none⟩ = false := free_at HT1.out 0
    have r1_ : w1.cell? ⟨w.heap.size, 1, none⟩ = some (.string t.pkg) := (cell_at HT1.out 1).trans rfl
    have s1_ : w1.frozen? ⟨w.heap.size, 1, none⟩ = false := free_at HT1.out 1
    have r2_ : w1.cell? ⟨w.heap.size, 2, none⟩ = some (.string t.name) := (cell_at HT1.out 2).trans rfl
    have s2_ : w1.frozen? ⟨w.heap.size, 2, none⟩ = false := free_at HT1.out 2
    have r3_ : w1.cell? ⟨w.heap.size, 3, none⟩ = some (.slice A3 t.args.length c3) := (cell_at HT1.out 3).trans rfl
    have s3_ : w1.frozen? ⟨w.heap.size, 3, none⟩ = false := free_at HT1.out 3
    have r4_ : w1.cell? ⟨w.heap.size, 4, none⟩ = some (.slice A4 t.res.length c4) := (cell_at HT1.out 4).trans rfl
    have s4_ : w1.frozen? ⟨w.heap.size, 4, none⟩ = false := free_at HT1.out 4
    have h0_ := HT1.out
    have h1_ : (w1.setCell ⟨w.heap.size, 0, none⟩ (.int .i64 u.kind)).heap[w.heap.size]? = some (.cells #[.int .i64 u.kind, .string t.pkg, .string t.name, .slice A3 t.args.length c3, .slice A4 t.res.length c4] 26 (0, 0)) := set_at h0_ 0 (.int .i64 u.kind)
    have h2_ : ((w1.setCell ⟨w.heap.size, 0, none⟩ (.int .i64 u.kind)).setCell ⟨w.heap.size, 1, none⟩ (.string u.pkg)).heap[w.heap.size]? = some (.cells #[.int .i64 u.kind, .string u.pkg, .string t.name, .slice A3 t.args.length c3, .slice A4 t.res.length c4] 26 (0, 0)) := set_at h1_ 1 (.string u.pkg)
    have h3_ : (((w1.setCell ⟨w.heap.size, 0, none⟩ (.int .i64 u.kind)).setCell ⟨w.heap.size, 1, none⟩ (.string u.pkg)).setCell ⟨w.heap.size, 2, none⟩ (.string u.name)).heap[w.heap.size]? = some (.cells #[.int .i64 u.kind, .string u.pkg, .string u.name, .slice A3 t.args.length c3, .slice A4 t.res.length c4] 26 (0, 0)) := set_at h2_ 2 (.string u.name)
    have h4_ : ((((w1.setCell ⟨w.heap.size, 0, none⟩ (.int .i64 u.kind)).setCell ⟨w.heap.size, 1, none⟩ (.string u.pkg)).setCell ⟨w.heap.size, 2, none⟩ (.string u.name)).setCell ⟨w.heap.size, 3, none⟩ (.slice B3 u.args.length d3)).heap[w.heap.size]? = some (.cells #[.int .i64 u.kind, .string u.pkg, .string u.name, .slice B3 u.args.length d3, .slice A4 t.res.length c4] 26 (0, 0)) := set_at h3_ 3 (.slice B3 u.args.length d3)
    have h5_ : (((((w1.setCell ⟨w.heap.size, 0, none⟩ (.int .i64 u.kind)).setCell ⟨w.heap.size, 1, none⟩ (.string u.pkg)).setCell ⟨w.heap.size, 2, none⟩ (.string u.name)).setCell ⟨w.heap.size, 3, none⟩ (.slice B3 u.args.length d3)).setCell ⟨w.heap.size, 4, none⟩ (.slice B4 u.res.length d4)).heap[w.heap.size]? = some (.cells #[.int .i64 u.kind, .string u.pkg, .string u.name, .slice B3 u.args.length d3, .slice B4 u.res.length d4] 26 (0, 0)) := set_at h4_ 4 (.slice B4 u.res.length d4)
    have HTX := Lib.hid h5_
    have HBX := Lib.hid (show Below w.heap.size w (((((w1.setCell ⟨w.heap.size, 0, none⟩ (.int .i64 u.kind)).setCell ⟨w.heap.size, 1, none⟩ (.string u.pkg)).setCell ⟨w.heap.size, 2, none⟩ (.string u.name)).setCell ⟨w.heap.size, 3, none⟩ (.slice B3 u.args.length d3)).setCell ⟨w.heap.size, 4, none⟩ (.slice B4 u.res.length d4)) from Below.chg HB1.out ((((((Chg.refl (fun j => j = w.heap.size) w1).setCell (p := ⟨w.heap.size, 0, none⟩) (fun _ => rfl) (.int .i64 u.kind)).setCell (p := ⟨w.heap.size, 1, none⟩) (fun _ => rfl) (.string u.pkg)).setCell (p := ⟨w.heap.size, 2, none⟩) (fun _ => rfl) (.string u.name)).setCell (p := ⟨w.heap.size, 3, none⟩) (fun _ => rfl) (.slice B3 u.args.length d3)).setCell (p := ⟨w.heap.size, 4, none⟩) (fun _ => rfl) (.slice B4 u.res.length d4)) HB1.out.size (fun i hi => by omega))
    clear h0_ h1_ h2_ h3_ h4_ h5_
    by_cases h8 : u.kind = 8
    · have k8 : (u.kind != 8) = false := by simp [h8]
      have HX := Lib.hid (show methT vars t = some u by rw [HM.out, if_pos h8])
      clear h8
      go_wp2_with fail
      go_meet
      case rel => exact ⟨u, B3, d3, B4, d4, HX.out, HTX.out, HV1.out, HBX.out⟩
    · have k8 : (u.kind != 8) = true := by simp [h8]
      have HX := Lib.hid (show raw = [] by rw [HRW.out]; unfold rawP; rw [HM.out, if_neg h8])
      clear h8
      go_wp2_with fail
      refine bodyPost_ret (results_tmp rfl _ _ _) rfl ?_
      rw [HX.out]
      exact ⟨[], IsStable.nil, none, 0, rfl, (EachRow.start (((((w1.setCell ⟨w.heap.size, 0, none⟩ (.int .i64 u.kind)).setCell ⟨w.heap.size, 1, none⟩ (.string u.pkg)).setCell ⟨w.heap.size, 2, none⟩ (.string u.name)).setCell ⟨w.heap.size, 3, none⟩ (.slice B3 u.args.length d3)).setCell ⟨w.heap.size, 4, none⟩ (.slice B4 u.res.length d4)) Fld.d 6 56).done (Nat.zero_le _) |>.elim fun A h => by obtain ⟨c, h1, h2, _⟩ := h; injection h1 with h1; injection h1 with e1 e2 e3; subst e1 e3; exact h2.sub (new_mono HBX.out.size none _), ⟨56, [], World.ownsRow_nil _ _ _ _⟩, HBX.out⟩
  case rest =>
    obtain ⟨x, B3, d3, B4, d4, hmx, htx, hvx, hbx⟩ := hcut
    have HMX := Lib.hid hmx; have HTX := Lib.hid htx; have HVX := Lib.hid hvx; have HBX := Lib.hid hbx
    have HRX := Lib.hid (show raw = baseP us x by rw [HRW.out]; unfold rawP; rw [hmx])
    have HX5 := Lib.hid (show x.kind = 5 → x = t from fun h => by
      unfold methT at hmx
      split at hmx
      · split at hmx
        · rename_i h9 h8
          injection hmx with hmx
          rw [hmx, h] at h8; omega
        · cases hmx
      · injection hmx with hmx; exact hmx.symm)
    clear hmx htx hvx hbx HMU HT0 HB0 HV
    have HFA := Lib.hid (face_any v wc (HVW.out.trans (HBX.out.mono HVS.out)) us A c HL.out x _ (HVX.out.sub (Below.sub (HVW.out.trans (HBX.out.mono HVS.out)))))
    have t0_ : wc.cell? ⟨w.heap.size, 0, none⟩ = some (.int .i64 x.kind) := (cell_at HTX.out 0).trans rfl
    have t1_ : wc.cell? ⟨w.heap.size, 1, none⟩ = some (.string x.pkg) := (cell_at HTX.out 1).trans rfl
    have t2_ : wc.cell? ⟨w.heap.size, 2, none⟩ = some (.string x.name) := (cell_at HTX.out 2).trans rfl
    have t3_ : wc.cell? ⟨w.heap.size, 3, none⟩ = some (.slice B3 x.args.length d3) := (cell_at HTX.out 3).trans rfl
    have t4_ : wc.cell? ⟨w.heap.size, 4, none⟩ = some (.slice B4 x.res.length d4) := (cell_at HTX.out 4).trans rfl
    go_wp2_with fail
    clear t0_ t1_ t2_ t3_ t4_
    refine HFA.out.mono ?_
    obtain ⟨fr, hfr⟩ : ∃ r, r = faceP us x := ⟨_, rfl⟩
    obtain ⟨q, hq⟩ : ∃ q, q = fr.isSome := ⟨_, rfl⟩
    rintro e w1 ⟨vs, d, he, hvd, hd, hb⟩
    rw [← hfr, ← hq] at he
    rw [← hfr] at hd
    subst he
    have HFR := Lib.hid hfr; have HQ := Lib.hid hq; have HDD := Lib.hid hd; have HVD := Lib.hid hvd
    obtain ⟨A7, c7, A8, c8, A9, c9, rfl, y0, y1, y2, y3, y4, y5, y6, y7, y8, y9⟩ := Dcl.opn hvd
    have HSF := Lib.hid y9
    have HB1 := Lib.hid (HBX.out.trans (hb.mono HBX.out.size))
    have HT1 := Lib.hid ((hb.block _ (lt_of_block HTX.out)).trans HTX.out)
    clear hfr hq hd hvd hb y0 y1 y2 y3 y4 y5 y6 y7 y8 y9 HFA
    have HB2 := Lib.hid (HB1.out.alloc HB1.out.size (.cells #[.int .i64 d.kind, .string d.name, .string d.of, .int .i64 d.value, .int .i64 d.type.kind, .string d.type.pkg, .string d.type.name, .slice A7 d.type.args.length c7, .slice A8 d.type.res.length c8, .slice A9 d.fields.length c9] 46))
    have HT2 := Lib.hid (alloc_old HT1.out (.cells #[.int .i64 d.kind, .string d.name, .string d.of, .int .i64 d.value, .int .i64 d.type.kind, .string d.type.pkg, .string d.type.name, .slice A7 d.type.args.length c7, .slice A8 d.type.res.length c8, .slice A9 d.fields.length c9] 46))
    have HSZ := Lib.hid (lt_of_block HT1.out)
    go_upto_if 28 with (fail)
    go_cut [7] from 22 to 31 (fun s wx => ∃ (l : List Fld) (V : Cel), l = (fr.map (·.fields)).getD [] ∧ OwnS wx (w.heap.size + 1) s l.length V id ∧ ReadV v l V ∧ Below w.heap.size w wx ∧ wx.heap[w.heap.size]? = some (.cells #[.int .i64 x.kind, .string x.pkg, .string x.name, .slice B3 x.args.length d3, .slice B4 x.res.length d4] 26 (0, 0)))
    case first =>
      cases q with
      | false =>
        have HN := Lib.hid (show (fr.map (·.fields)).getD [] = ([] : List Fld) by
          have := HQ.out
          cases fr with
          | none => rfl
          | some z => cases this)
        go_wp2_with fail
        go_meet
        case rel => exact ⟨[], cel0, HN.out.symm, OwnS.nil _ _ _ _, ReadV.nil _ _, HB2.out, HT2.out⟩
      | true =>
        have HN := Lib.hid (show (fr.map (·.fields)).getD [] = d.fields by
          have h1 := HQ.out; have h2 := HDD.out
          cases fr with
          | none => cases h1
          | some z => rw [h2 z rfl]; rfl)
        have HFL := Lib.hid (show d.fields.length ≤ 1000000 by
          rw [← HN.out, HFR.out]
          have h1 := H1.out
          rw [HRX.out] at h1
          unfold baseP at h1
          by_cases h5 : x.kind = 5
          · unfold faceP; rw [if_neg (by omega)]; simp
          · rw [if_neg h5] at h1; exact h1)
        have HCL := Lib.hid (clone_any v (w1.alloc (.cells #[.int .i64 d.kind, .string d.name, .string d.of, .int .i64 d.value, .int .i64 d.type.kind, .string d.type.pkg, .string d.type.name, .slice A7 d.type.args.length c7, .slice A8 d.type.res.length c8, .slice A9 d.fields.length c9] 46)) (HVW.out.trans (HB2.out.mono HVS.out)) d.fields A9 c9 HSF.out HFL.out)
        go_wp2_with fail
        refine HCL.out.mono ?_
        rintro e w2 ⟨u, V, rfl, ho, hr, hb⟩
        have HO := Lib.hid (ho.low (base' := w.heap.size + 1) (by have := HSZ.out; simp; omega)); have HRV := Lib.hid hr
        have HB3 := Lib.hid (HB2.out.trans (hb.mono HB2.out.size))
        have HT3 := Lib.hid ((hb.block _ (lt_of_block HT2.out)).trans HT2.out)
        clear ho hr hb
        go_wp2_with fail
        go_meet
        case rel => exact ⟨d.fields, V, HN.out.symm, HO.out, HRV.out, HB3.out, HT3.out⟩
    case rest =>
      obtain ⟨l, V, hl0, ho, hr, hb, ht⟩ := hcut
      have HL0 := Lib.hid (show l = ((faceP us x).map (·.fields)).getD [] by rw [hl0, HFR.out])
      have HO := Lib.hid ho; have HRV := Lib.hid hr; have HBC := Lib.hid hb; have HTC := Lib.hid ht
      clear hl0 ho hr hb ht HSF HVD HDD HQ HFR HB1 HB2 HT1 HT2
      have HAX := HO
      have t0_ : wc.cell? ⟨w.heap.size, 0, none⟩ = some (.int .i64 x.kind) := (cell_at HTC.out 0).trans rfl
      go_upto_if 34 with (fail)
      clear t0_
      go_cut [7] from 32 to 63 (fun s wx => ∃ V, OwnS wx (w.heap.size + 1) s raw.length V id ∧ ReadV v raw V ∧ Below w.heap.size w wx)
      case first =>
        by_cases h5 : x.kind = 5
        case neg =>
          have k5 : (x.kind == 5) = false := by simp [h5]
          have HRL := Lib.hid (show raw = l by rw [HRX.out, HL0.out]; unfold baseP; rw [if_neg h5])
          clear h5
          go_wp2_with fail
          go_meet
          case rel => exact ⟨V, by rw [HRL.out]; exact HO.out, by rw [HRL.out]; exact HRV.out, HBC.out⟩
        have k5 : (x.kind == 5) = true := by simp [h5]
        have HLN := Lib.hid (show l = [] by rw [HL0.out]; unfold faceP; rw [if_neg (by omega)]; rfl)
        obtain ⟨un, hun⟩ : ∃ un, un = unitP us x.pkg := ⟨_, rfl⟩
        have HRU := Lib.hid (show raw = (un.decls.filter (isM x.name)).map fldD by rw [HRX.out]; unfold baseP; rw [if_pos h5, hun])
        have HUN := Lib.hid (show un.decls.length ≤ 1000000 by rw [hun, HX5.out h5]; exact H3.out)
        have HUC := Lib.hid (unit_any v wc (HVW.out.trans (HBC.out.mono HVS.out)) us x.pkg A c HL.out)
        rw [← hun] at HUC
        clear h5 hun
        have t0_ : wc.cell? ⟨w.heap.size, 0, none⟩ = some (.int .i64 x.kind) := (cell_at HTC.out 0).trans rfl
        have t1_ : wc.cell? ⟨w.heap.size, 1, none⟩ = some (.string x.pkg) := (cell_at HTC.out 1).trans rfl
        have t2_ : wc.cell? ⟨w.heap.size, 2, none⟩ = some (.string x.name) := (cell_at HTC.out 2).trans rfl
        have t3_ : wc.cell? ⟨w.heap.size, 3, none⟩ = some (.slice B3 x.args.length d3) := (cell_at HTC.out 3).trans rfl
        have t4_ : wc.cell? ⟨w.heap.size, 4, none⟩ = some (.slice B4 x.res.length d4) := (cell_at HTC.out 4).trans rfl
        go_wp2_with fail
        clear t0_ t1_ t2_ t3_ t4_
        refine HUC.out.mono ?_
        rintro e w2 ⟨vs, rfl, hv, hb⟩
        obtain ⟨A1, c1, A2, c2, A3, c3, rfl, y0, y1, y2, y3⟩ := Un.opn hv
        have HDL := Lib.hid y2
        have HBW := Lib.hid (HBC.out.trans (hb.mono HBC.out.size))
        have HTW := Lib.hid ((hb.block _ (lt_of_block HTC.out)).trans HTC.out)
        have HOW := Lib.hid (HO.out.chg (below_none hb))
        have HNS := Lib.hid (lt_of_block ((hb.block _ (lt_of_block HTC.out)).trans HTC.out))
        have hun := HUN.out
        clear hv hb y0 y1 y2 y3 HO HBC HTC HUC
        have hfd : ∀ W : World, (Instr.field 63 (.agg #[.string un.pkg, .slice A1 un.imports.length c1, .slice A2 un.decls.length c2, .slice A3 un.bodies.length c3]) 2).run Try.prog W = .ok (.slice A2 un.decls.length c2) W := fun _ => by kernel_rfl
        go_wp2_with fail
        go_loopw [7, 41] (fun s i wr => ∃ (k : Nat) (V : Cel), k ≤ un.decls.length ∧ i = .int .i64 k ∧ OwnS wr (w.heap.size + 1) s (((un.decls.take k).filter (isM x.name)).map fldD).length V id ∧ ReadV v (((un.decls.take k).filter (isM x.name)).map fldD) V ∧ Below (w.heap.size + 1) w2 wr) (fun s i _ => un.decls.length - (intOf i).toNat)
        case atStart =>
          have h := HLN.out
          have ho := HOW.out
          rw [h] at ho
          exact ⟨0, V, Nat.zero_le _, rfl, ho, ReadV.nil _ _, Below.refl _ _⟩
        case round =>
          clear HOW
          obtain ⟨k, U, hk, rfl, ho, hr, hb⟩ := hrel
          have HO := Lib.hid ho; have HRU2 := Lib.hid hr; have HB := Lib.hid hb
          have HTR := Lib.hid ((hb.block _ (by omega)).trans HTW.out)
          have HBR := Lib.hid (show Below w.heap.size w wr from HBW.out.trans (hb.mono (by omega)))
          have HSR := Lib.hid (show w.heap.size < wr.heap.size from lt_of_block HTR.out)
          clear ho hr hb
          by_cases hlt : k < un.decls.length
          case neg =>
            obtain rfl : k = un.decls.length := by omega
            have hlt' : ¬ (un.decls.length : Int) < un.decls.length := by omega
            have HRL := Lib.hid (show raw = ((un.decls.take un.decls.length).filter (isM x.name)).map fldD by rw [List.take_length]; exact HRU.out)
            go_wp2_with fail
            go_meet
            case rel => exact ⟨U, by rw [HRL.out]; exact HO.out, by rw [HRL.out]; exact HRU2.out, HBR.out⟩
          have hlt' : (k : Int) < un.decls.length := by omega
          obtain ⟨bb, o, hA, A7, c7, A8, c8, A9, c9, e0, e1, e2, e3, e4, e5, e6, e7, e8, e9, q0, q1, q2, q3, q4, q5, q6, q7, q8, q9⟩ := Dcl.at HDL.out.2.2.2 k hlt
          subst hA
          have hsub := Below.sub (HVW.out.trans (HBR.out.mono HVS.out))
          have f0 := hsub _ _ e0; have f1 := hsub _ _ e1; have f2 := hsub _ _ e2; have f3 := hsub _ _ e3; have f4 := hsub _ _ e4; have f5 := hsub _ _ e5; have f6 := hsub _ _ e6; have f7 := hsub _ _ e7; have f8 := hsub _ _ e8; have f9 := hsub _ _ e9
          have HVF := Lib.hid (Fld.shut (w := v) (t := fldD un.decls[k]) q1 q4 q5 q6 q7 q8)
          have HFT := Lib.hid (filter_take (isM x.name) un.decls k hlt)
          have n2_ : wr.cell? ⟨w.heap.size, 2, none⟩ = some (.string x.name) := (cell_at HTR.out 2).trans rfl
          have nlt_ := HSR.out
          clear hsub e0 e1 e2 e3 e4 e5 e6 e7 e8 e9 q0 q1 q2 q3 q4 q5 q6 q7 q8 q9
          cases z6 : (un.decls[k].kind == 6) with
          | false =>
            have HSN := Lib.hid (show ((un.decls.take (k + 1)).filter (isM x.name)).map fldD = ((un.decls.take k).filter (isM x.name)).map fldD by
              rw [HFT.out, if_neg (by unfold isM; rw [z6]; simp), List.append_nil])
            go_wp2_with fail
            go_roundw
            case rel => exact ⟨k + 1, U, by omega, by go_num, by rw [HSN.out]; exact HO.out.chg ((Chg.refl _ _).alloc _), by rw [HSN.out]; exact HRU2.out, HB.out.alloc (by omega) _⟩
            case measure => simp [intOf]; omega
          | true =>
            cases zn : (un.decls[k].of.toList == x.name.toList) with
            | false =>
              have HSN := Lib.hid (show ((un.decls.take (k + 1)).filter (isM x.name)).map fldD = ((un.decls.take k).filter (isM x.name)).map fldD by
                rw [HFT.out, if_neg (by unfold isM; rw [zn]; simp), List.append_nil])
              go_wp2_with fail
              go_roundw
              case rel => exact ⟨k + 1, U, by omega, by go_num, by rw [HSN.out]; exact HO.out.chg ((Chg.refl _ _).alloc _), by rw [HSN.out]; exact HRU2.out, HB.out.alloc (by omega) _⟩
              case measure => simp [intOf]; omega
            | true =>
              have HSN := Lib.hid (show ((un.decls.take (k + 1)).filter (isM x.name)).map fldD = ((un.decls.take k).filter (isM x.name)).map fldD ++ [fldD un.decls[k]] by
                rw [HFT.out, if_pos (by unfold isM; rw [z6, zn]; rfl), List.map_append]; rfl)
              obtain ⟨pre, hpre⟩ : ∃ p, p = ((un.decls.take k).filter (isM x.name)).map fldD := ⟨_, rfl⟩
              have HPL := Lib.hid (show pre.length ≤ k by rw [hpre, List.length_map]; exact Nat.le_trans (List.length_filter_le _ _) (by simp; omega))
              rw [← hpre] at HO HRU2 HSN
              have HPE := Lib.hid hpre
              clear hpre
              obtain ⟨xs, hox, hxx⟩ := HO.out
              have hcw : Chg (fun _ => False) wr ((wr.alloc (.cells #[.int .i64 un.decls[k].kind, .string un.decls[k].name, .string un.decls[k].of, .int .i64 un.decls[k].value, .int .i64 un.decls[k].type.kind, .string un.decls[k].type.pkg, .string un.decls[k].type.name, .slice A7 un.decls[k].type.args.length c7, .slice A8 un.decls[k].type.res.length c8, .slice A9 un.decls[k].fields.length c9] 46)).alloc (.cells #[.string un.decls[k].name, .int .i64 un.decls[k].type.kind, .string un.decls[k].type.pkg, .string un.decls[k].type.name, .slice A7 un.decls[k].type.args.length c7, .slice A8 un.decls[k].type.res.length c8] 56)) := ((Chg.refl _ wr).alloc _).alloc _
              have HCW := Lib.hid hcw
              have HOX := Lib.hid (show (((wr.alloc (.cells #[.int .i64 un.decls[k].kind, .string un.decls[k].name, .string un.decls[k].of, .int .i64 un.decls[k].value, .int .i64 un.decls[k].type.kind, .string un.decls[k].type.pkg, .string un.decls[k].type.name, .slice A7 un.decls[k].type.args.length c7, .slice A8 un.decls[k].type.res.length c8, .slice A9 un.decls[k].fields.length c9] 46)).alloc (.cells #[.string un.decls[k].name, .int .i64 un.decls[k].type.kind, .string un.decls[k].type.pkg, .string un.decls[k].type.name, .slice A7 un.decls[k].type.args.length c7, .slice A8 un.decls[k].type.res.length c8] 56))).ownsRow (w.heap.size + 1) 56 6 u7 pre.length xs from own_grows hcw hox)
              have HXX := Lib.hid hxx; have HXL := Lib.hid hox.1
              have HGR := Lib.hid (fun y (hy : u7.ownBlock = some y) => HO.out.grown hy)
              have HNA := Lib.hid (show ∀ (j : Nat) (u : Value), ([.string un.decls[k].name, .int .i64 un.decls[k].type.kind, .string un.decls[k].type.pkg, .string un.decls[k].type.name, .slice A7 un.decls[k].type.args.length c7, .slice A8 un.decls[k].type.res.length c8] : List Value)[j]? = some u → (((wr.alloc (.cells #[.int .i64 un.decls[k].kind, .string un.decls[k].name, .string un.decls[k].of, .int .i64 un.decls[k].value, .int .i64 un.decls[k].type.kind, .string un.decls[k].type.pkg, .string un.decls[k].type.name, .slice A7 un.decls[k].type.args.length c7, .slice A8 un.decls[k].type.res.length c8, .slice A9 un.decls[k].fields.length c9] 46)).alloc (.cells #[.string un.decls[k].name, .int .i64 un.decls[k].type.kind, .string un.decls[k].type.pkg, .string un.decls[k].type.name, .slice A7 un.decls[k].type.args.length c7, .slice A8 un.decls[k].type.res.length c8] 56))).cell? ⟨wr.heap.size + 1, j, none⟩ = some u from fun j u q => by
                have h := alloc_at (wr.alloc (.cells #[.int .i64 un.decls[k].kind, .string un.decls[k].name, .string un.decls[k].of, .int .i64 un.decls[k].value, .int .i64 un.decls[k].type.kind, .string un.decls[k].type.pkg, .string un.decls[k].type.name, .slice A7 un.decls[k].type.args.length c7, .slice A8 un.decls[k].type.res.length c8, .slice A9 un.decls[k].fields.length c9] 46)) (.cells #[.string un.decls[k].name, .int .i64 un.decls[k].type.kind, .string un.decls[k].type.pkg, .string un.decls[k].type.name, .slice A7 un.decls[k].type.args.length c7, .slice A8 un.decls[k].type.res.length c8] 56)
                rw [World.size_alloc] at h
                rw [cell_at h]; simpa using q)
              have HON := Lib.hid (show ∀ u ∈ ([.string un.decls[k].name, .int .i64 un.decls[k].type.kind, .string un.decls[k].type.pkg, .string un.decls[k].type.name, .slice A7 un.decls[k].type.args.length c7, .slice A8 un.decls[k].type.res.length c8] : List Value), u.oneCell' = true from fun u q => by simp at q; rcases q with rfl | rfl | rfl | rfl | rfl | rfl <;> rfl)
              have HLN2 := Lib.hid (show (pre.length + 1) * 104 ≤ 140737488355328 by have := HPL.out; omega)
              have HLM := Lib.hid (show pre.length + 1 ≤ maxLen by have := HPL.out; unfold maxLen; omega)
              clear hcw hox hxx
              go_wp2_with (at_builtin; go_loud (refine wpList_append_rec _ rfl _ _ 23 rfl (w.heap.size + 1) 56 (.agg #[.string ⟨#[]⟩, .int .i64 0, .string ⟨#[]⟩, .string ⟨#[]⟩, .slice none 0 0, .slice none 0 0]) 6 104 Try.infnFld Try.underlying23 rfl (by omega) u7 pre.length xs rfl HOX.out (wr.heap.size + 1) 1 ([.string un.decls[k].name, .int .i64 un.decls[k].type.kind, .string un.decls[k].type.pkg, .string un.decls[k].type.name, .slice A7 un.decls[k].type.args.length c7, .slice A8 un.decls[k].type.res.length c8]) rfl rfl HNA.out HON.out HLN2.out HLM.out (by simp; omega) ?_; intro v1 w3 h1 g1 r1; have HOV := Lib.hid h1; have HGB := Lib.hid g1; clear h1 g1 r1))
              have HO3 := Lib.hid (show OwnS w3 (w.heap.size + 1) v1 (pre.length + 1) (U.put pre.length (fldD un.decls[k]) A7 c7 A8 c8) id from OwnS.push HXX.out HXL.out HOV.out (fun i hi => U.put_old _ _ _ _ _ (by show i ≠ _; omega)) rfl (U.put_new _ _ _ _ _ _))
              have HR3 := Lib.hid (HRU2.out.push HVF.out)
              have HB3 := Lib.hid (show Below (w.heap.size + 1) w2 w3 from Below.chg HB.out ((HCW.out.mono (S' := fun y => u7.ownBlock = some y) (fun _ _ e => e.elim)).grown HGB.out (fun y _ e => e)) (by have := HB.out.size; have := HNS.out; omega) (fun y hy => (HGR.out y hy).1))
              go_roundw
              case rel => exact ⟨k + 1, _, by omega, by go_num, by rw [HSN.out, List.length_append]; exact HO3.out, by rw [HSN.out]; exact HR3.out, HB3.out⟩
              case measure => simp [intOf]; omega
      case rest =>
        obtain ⟨V, ho, hr, hb⟩ := hcut
        have HO := Lib.hid ho; have HR := Lib.hid hr; have HB := Lib.hid hb
        clear ho hr hb HAX
        have HSO := Lib.hid (sorts_own wc (w.heap.size + 1) u7 raw.length V H1.out HO.out)
        go_wp2_with fail
        refine HSO.out.mono ?_
        rintro e w3 ⟨rfl, q, ho, ht, hs, hc⟩
        have HO3 := Lib.hid ho; have HT3 := Lib.hid ht
        have HST := Lib.hid (HR.out.stable ht hs)
        have HGR := Lib.hid (fun y (hy : u7.ownBlock = some y) => HO.out.grown hy)
        have HB3 := Lib.hid (show Below w.heap.size w w3 from Below.chg HB.out hc HB.out.size (fun y hy => by have := (HGR.out y hy).1; omega))
        have HPL := Lib.hid (show (pick raw q).length = raw.length by simp [pick])
        have HVB := Lib.hid (HVW.out.trans (HB3.out.mono HVS.out))
        have hsl : ∃ A c, u7 = .slice A raw.length c ∧ SL w3 6 (Fld.ds (pick raw q)) raw.length A c := by
          rcases HO3.out.cases with ⟨h1, h2⟩ | ⟨g, c, h1, h2, h3, h4, h5⟩
          · refine ⟨none, 0, by rw [h1, h2], ?_⟩
            have hn : raw = [] := List.eq_nil_of_length_eq_zero h2
            rw [hn]; exact nil_sl _ _
          · exact ⟨some ⟨g, 0, none⟩, c, h1, h5.sl HVB.out HR.out HT3.out h3 (by have := H1.out; unfold Reach; omega)⟩
        obtain ⟨As, cs, rfl, hsl⟩ := hsl
        have HE := Lib.hid (eachFld_any w3 (pick raw q) As cs (by rw [HPL.out]; exact hsl) (by rw [HPL.out]; exact H1.out) 63 #[] id enters_meth2 (fun f hf wx vs _ hvf => meth2_any wx f vs hvf (H2.out f (HST.out.mem hf))))
        rw [HPL.out] at HE
        clear ho ht hs hc hsl HSO
        go_wp2_with fail
        refine HE.out.mono ?_
        rw [List.map_id]
        rintro e w4 ⟨A', c', rfl, hd, ⟨et, segs, ho⟩, hb⟩
        have HD := Lib.hid hd; have HOE := Lib.hid ho; have HB4 := Lib.hid hb
        clear hd ho hb
        go_wp2_with fail
        refine bodyPost_ret (results_tmp rfl _ _ _) rfl ?_
        refine ⟨pick raw q, HST.out, A', c', rfl, ?_, ⟨et, segs, ?_⟩, HB3.out.trans (HB4.out.mono HB3.out.size)⟩
        · exact DV.sub (new_mono HB3.out.size none _) HD.out
        · refine ⟨HOE.out.1, HOE.out.2.imp id ?_⟩
          rintro ⟨g, cap, cur, h1, h2, h3⟩
          exact ⟨g, cap, cur, h1, Nat.le_trans HB3.out.size h2, h3⟩
end Go.Proofs.Ytiecbgclkdlpkaa
