/-
  The walk of KindsTwins. The condition: what is handed in reads.
-/
import Derived.Test.YtiecbgclkdlpkaaKSpoil
import Derived.Test.YtiecbgclkdlpkaaKMethEF
import Derived.Test.YtiecbgclkdlpkaaKMethods
namespace Go.Proofs.Ytiecbgclkdlpkaa.fr
open Go.RowKit
set_option linter.unusedVariables false
set_option linter.unusedSimpArgs false
attribute [local irreducible] wpStill wpOrd wpT

set_option maxRecDepth 100000 in
set_option maxHeartbeats 3200000 in
theorem kindsTwins_any (w : World) (us : List Un) (A : Option Addr) (c : Nat) (hu : SL w 4 (Un.ds us) us.length A c) (t : Ty) (vs : List Value) (hv : Vals w t.d vs) :
    Calls Try.prog 11 #[.slice A us.length c, .agg vs.toArray] w (Ans w (.bool true)) := by
  have HV := Lib.hid hv; have HU := Lib.hid hu
  obtain ⟨A3, c3, A4, c4, rfl, q0, q1, q2, q3, q4⟩ := Ty.opn hv
  obtain ⟨wz, hz⟩ : ∃ x, x = w.alloc (.cells #[.int .i64 t.kind, .string t.pkg, .string t.name, .slice A3 t.args.length c3, .slice A4 t.res.length c4] 26) := ⟨_, rfl⟩
  have HB0 := Lib.hid (show Below w.heap.size w wz by rw [hz]; exact (Below.refl w.heap.size w).alloc (Nat.le_refl _) _)
  have HT0 := Lib.hid (show wz.heap[w.heap.size]? = some (.cells #[.int .i64 t.kind, .string t.pkg, .string t.name, .slice A3 t.args.length c3, .slice A4 t.res.length c4] 26 (0, 0)) by rw [hz]; exact alloc_at w _)
  clear hv hu q0 q1 q2 q3 q4
  go_enter Try.func11, Try.ntmps11
  go_wp2_with fail
  rw [← hz]
  clear hz
  refine (units_any wz us A c (HU.out.sub (Below.sub HB0.out))).mono ?_
  rintro e w1 ⟨q, rfl, hg, hb⟩
  have HB1 := Lib.hid (HB0.out.trans (hb.mono HB0.out.size))
  have HT2 := Lib.hid ((hb.block _ (lt_of_block HT0.out)).trans HT0.out)
  clear hb HT0
  cases q
  case true =>
    clear hg
    go_wp2_with fail
    refine (awake_any w1).mono ?_
    rintro e wy ⟨rfl, hb⟩
    have HBZ := Lib.hid (HB1.out.trans (hb.mono HB1.out.size)); clear hb
    go_wp2_with fail
    exact bodyPost_ret (results_tmp rfl _ _ _) rfl ⟨rfl, HBZ.out⟩
  have HSU := Lib.hid (show Un.szL us ≤ 2000 from hg rfl)
  clear hg
  have t0_ : w1.cell? ⟨w.heap.size, 0, none⟩ = some (.int .i64 t.kind) := (cell_at HT2.out 0).trans rfl
  have t1_ : w1.cell? ⟨w.heap.size, 1, none⟩ = some (.string t.pkg) := (cell_at HT2.out 1).trans rfl
  have t2_ : w1.cell? ⟨w.heap.size, 2, none⟩ = some (.string t.name) := (cell_at HT2.out 2).trans rfl
  have t3_ : w1.cell? ⟨w.heap.size, 3, none⟩ = some (.slice A3 t.args.length c3) := (cell_at HT2.out 3).trans rfl
  have t4_ : w1.cell? ⟨w.heap.size, 4, none⟩ = some (.slice A4 t.res.length c4) := (cell_at HT2.out 4).trans rfl
  go_wp2_with fail
  clear t0_ t1_ t2_ t3_ t4_
  obtain ⟨wx, hx⟩ : ∃ x, x = w1.alloc (.cells #[.int .i64 t.kind, .string t.pkg, .string t.name, .slice A3 t.args.length c3, .slice A4 t.res.length c4] 26) := ⟨_, rfl⟩
  have HX := Lib.hid (show Below w1.heap.size w1 wx by rw [hx]; exact (Below.refl w1.heap.size w1).alloc (Nat.le_refl _) _)
  have HTX := Lib.hid ((HX.out.block _ (lt_of_block HT2.out)).trans HT2.out)
  have HBX := Lib.hid (HB1.out.trans (HX.out.mono HB1.out.size))
  have HNX := Lib.hid (show wx.heap[w1.heap.size]? = some (.cells #[.int .i64 t.kind, .string t.pkg, .string t.name, .slice A3 t.args.length c3, .slice A4 t.res.length c4] 26 (0, 0)) by rw [hx]; exact alloc_at w1 _)
  rw [← hx]
  clear hx
  refine (great_any wx [t] _ 1 (sl_one HNX.out (HV.out.sub (Below.sub HBX.out)))).mono ?_
  rintro e w3 ⟨q, rfl, hg, hb⟩
  have HB3 := Lib.hid (HBX.out.trans (hb.mono HBX.out.size))
  have HT3 := Lib.hid ((hb.block _ (lt_of_block HTX.out)).trans HTX.out)
  clear hb hg HNX HTX HX HBX
  cases q
  case true =>
    go_wp2_with fail
    refine (awake_any w3).mono ?_
    rintro e wy ⟨rfl, hb⟩
    have HBZ := Lib.hid (HB3.out.trans (hb.mono HB3.out.size)); clear hb
    go_wp2_with fail
    exact bodyPost_ret (results_tmp rfl _ _ _) rfl ⟨rfl, HBZ.out⟩
  have t0_ : w3.cell? ⟨w.heap.size, 0, none⟩ = some (.int .i64 t.kind) := (cell_at HT3.out 0).trans rfl
  have t1_ : w3.cell? ⟨w.heap.size, 1, none⟩ = some (.string t.pkg) := (cell_at HT3.out 1).trans rfl
  have t2_ : w3.cell? ⟨w.heap.size, 2, none⟩ = some (.string t.name) := (cell_at HT3.out 2).trans rfl
  have t3_ : w3.cell? ⟨w.heap.size, 3, none⟩ = some (.slice A3 t.args.length c3) := (cell_at HT3.out 3).trans rfl
  have t4_ : w3.cell? ⟨w.heap.size, 4, none⟩ = some (.slice A4 t.res.length c4) := (cell_at HT3.out 4).trans rfl
  obtain ⟨raw, hraw⟩ : ∃ r, r = rawP us [] t := ⟨_, rfl⟩
  have HRZ := Lib.hid (show raw.length ≤ 2000 ∧ ∀ f ∈ raw, f.type.sz ≤ 2000 by rw [hraw]; exact rawP_sz HSU.out [] t)
  have HK1 := kmethS_any w w3 HB3.out us A c HU.out [] none 0 (nil_sl w 6) t _ HV.out (by rw [← hraw]; exact Nat.le_trans HRZ.out.1 (by decide)) (by rw [← hraw]; exact fun f hf => Nat.le_trans (HRZ.out.2 f hf) (by decide)) (Nat.le_trans (decls_sz (s := t.pkg) HSU.out).1 (by decide))
  have HK3 := Lib.hid (fun (wr : World) (hb : Below w.heap.size w wr) => kmeth_any w wr hb us A c HU.out [] none 0 (nil_sl w 6) t _ HV.out (by rw [← hraw]; exact Nat.le_trans HRZ.out.1 (by decide)) (by rw [← hraw]; exact fun f hf => Nat.le_trans (HRZ.out.2 f hf) (by decide)) (Nat.le_trans (decls_sz (s := t.pkg) HSU.out).1 (by decide)))
  have HK2 := Lib.hid (fun (wr : World) (hb : Below w.heap.size w wr) => rmethS_any w wr hb us A c HU.out [] none 0 (nil_sl w 6) t _ HV.out (by rw [← hraw]; exact Nat.le_trans HRZ.out.1 (by decide)))
  rw [← hraw] at HK1 HK2 HK3
  clear hraw
  have HK1 := Lib.hid HK1
  go_wp2_with fail
  clear t0_ t1_ t2_ t3_ t4_
  refine HK1.out.mono ?_
  rintro e w4 ⟨M, w0, hM, hw0, ⟨B, d, et, segs, rfl, her⟩, hb⟩
  have HM := Lib.hid hM
  have HB4 := Lib.hid (HB3.out.trans (hb.mono HB3.out.size))
  have HT4 := Lib.hid ((hb.block _ (lt_of_block HT3.out)).trans HT3.out)
  have HZ4 := Lib.hid hb.size
  have HZ0 := Lib.hid (lt_of_block HT3.out)
  have HSP := Lib.hid (Spoil.start her (S := fun k => w3.heap.size ≤ k ∧ k < w4.heap.size) (fun k h1 h2 => ⟨Nat.le_trans hw0 h1, h2⟩))
  have HZM := Lib.hid (show M.length ≤ 2000 by rw [hM.length]; exact HRZ.out.1)
  clear hb her hM hw0 HK1
  have t0_ : w4.cell? ⟨w.heap.size, 0, none⟩ = some (.int .i64 t.kind) := (cell_at HT4.out 0).trans rfl
  have t1_ : w4.cell? ⟨w.heap.size, 1, none⟩ = some (.string t.pkg) := (cell_at HT4.out 1).trans rfl
  have t2_ : w4.cell? ⟨w.heap.size, 2, none⟩ = some (.string t.name) := (cell_at HT4.out 2).trans rfl
  have t3_ : w4.cell? ⟨w.heap.size, 3, none⟩ = some (.slice A3 t.args.length c3) := (cell_at HT4.out 3).trans rfl
  have t4_ : w4.cell? ⟨w.heap.size, 4, none⟩ = some (.slice A4 t.res.length c4) := (cell_at HT4.out 4).trans rfl
  go_wp2_with fail
  clear t0_ t1_ t2_ t3_ t4_
  refine (HK2.out w4 HB4.out).mono ?_
  rintro e w5 ⟨u, V, r, base, rfl, hbase, hrow, hrv, hn, hb⟩
  obtain ⟨As, cs, rfl⟩ : ∃ As cs, u = .slice As raw.length cs := by
    rcases hrow.o.cases with ⟨h1, h2⟩ | ⟨g, c, h1, h2⟩
    · exact ⟨none, 0, by rw [h1, h2]⟩
    · exact ⟨_, _, h1⟩
  have HBS := Lib.hid hbase; have HRO := Lib.hid hrow; have HRV := Lib.hid hrv
  have HB5 := Lib.hid (HB4.out.trans (hb.mono HB4.out.size))
  have HT5 := Lib.hid ((hb.block _ (lt_of_block HT4.out)).trans HT4.out)
  have HS5 := Lib.hid (HSP.out.move (below_none hb))
  have HZ5 := Lib.hid hb.size
  clear hb hbase hrow hrv hn HSP HK2
  obtain ⟨S, hS⟩ : ∃ S : Nat → Prop, S = fun k => w3.heap.size ≤ k ∧ k < w4.heap.size := ⟨_, rfl⟩
  rw [← hS] at HS5
  have HS := Lib.hid (show ∀ k, S k → w3.heap.size ≤ k ∧ k < w4.heap.size by rw [hS]; exact fun k h => h)
  clear hS
  go_wp2_with fail
  go_loopw [7, 8] (fun i k wr => ∃ n : Nat, n ≤ M.length ∧ i = .int .i64 n ∧ Spoil S B M w5 wr) (fun i _ _ => M.length - (intOf i).toNat)
  case atStart => exact ⟨0, Nat.zero_le _, rfl, HS5.out⟩
  case round =>
    obtain ⟨n, hn, rfl, hs⟩ := hrel
    have HSP := Lib.hid hs
    clear hs
    by_cases hlt : n < M.length
    case neg =>
      obtain rfl : n = M.length := by omega
      have hlt' : ¬ (M.length : Int) < M.length := by omega
      have HBR := Lib.hid (show Below w.heap.size w wr from Below.chg HB5.out HSP.out.1 HB5.out.size (fun y hy => by have := (HS.out y hy).1; have := HZ0.out; omega))
      have HTR := Lib.hid (HSP.out.1.heap HT5.out (fun h => by have := (HS.out _ h).1; have := HZ0.out; omega))
      have HOW := Lib.hid (show OwnS wr base (.slice As raw.length cs) raw.length V r from by
        obtain ⟨xs, h1, h2⟩ := HRO.out.o
        exact ⟨xs, own_apart HSP.out.1 (fun k hk => by have := (HS.out k hk).2; have := HBS.out; omega) h1, h2⟩)
      have t0_ : wr.cell? ⟨w.heap.size, 0, none⟩ = some (.int .i64 t.kind) := (cell_at HTR.out 0).trans rfl
      have t1_ : wr.cell? ⟨w.heap.size, 1, none⟩ = some (.string t.pkg) := (cell_at HTR.out 1).trans rfl
      have t2_ : wr.cell? ⟨w.heap.size, 2, none⟩ = some (.string t.name) := (cell_at HTR.out 2).trans rfl
      have t3_ : wr.cell? ⟨w.heap.size, 3, none⟩ = some (.slice A3 t.args.length c3) := (cell_at HTR.out 3).trans rfl
      have t4_ : wr.cell? ⟨w.heap.size, 4, none⟩ = some (.slice A4 t.res.length c4) := (cell_at HTR.out 4).trans rfl
      go_wp2_with fail
      clear t0_ t1_ t2_ t3_ t4_
      refine (HK3.out wr HBR.out).mono ?_
      rintro e w6 ⟨M', hM', C, z, rfl, hsl, -, hb⟩
      obtain rfl := IsStable.unique HM.out hM'
      have HB6 := Lib.hid (HBR.out.trans (hb.mono HBR.out.size))
      have HS6 := Lib.hid (show SL w6 6 (Fld.ds M) M.length C z from (fld_sl hsl).sub (Go.Proofs.Ytiecbgclkdlpkaa.new_sub _ _ _))
      have HO6 := Lib.hid (HOW.out.chg (below_none hb))
      clear hb hsl hM'
      have hW : SL w6 6 (Fld.ds M) M.length As cs := by
        have hst := HRV.out.stable HRO.out.t HRO.out.s
        have hpl : (pick raw r).length = raw.length := by simp [pick]
        obtain rfl := IsStable.unique HM.out hst
        rw [hpl]
        rcases HO6.out.cases with ⟨h1, h2⟩ | ⟨g, c, h1, h2, h3, h4, h5⟩
        · injection h1 with e1 e2 e3
          subst e1 e3
          have hn : raw = [] := List.eq_nil_of_length_eq_zero h2
          rw [hn]; exact nil_sl _ _
        · injection h1 with e1 e2 e3
          subst e1 e3
          exact h5.sl HB6.out HRV.out HRO.out.t h3 (by have := HRZ.out.1; unfold Reach; omega)
      have HW := Lib.hid hW
      have hrl : raw.length = M.length := HM.out.length.symm
      rw [hrl]
      clear hW hrl
      go_wp2_with fail
      refine (eqFldLV M M w6 _ _ _ _ HS6.out HW.out).mono ?_
      rw [(eqFldL_iff M M).2 rfl]
      rintro e w7 ⟨rfl, hb⟩
      have HB7 := Lib.hid (HB6.out.trans (hb.mono HB6.out.size)); clear hb
      go_wp2_with fail
      refine (awake_any w7).mono ?_
      rintro e wy ⟨rfl, hb⟩
      have HBZ := Lib.hid (HB7.out.trans (hb.mono HB7.out.size)); clear hb
      go_wp2_with fail
      exact bodyPost_ret (results_tmp rfl _ _ _) rfl ⟨rfl, HBZ.out⟩
    have hlt' : (n : Int) < M.length := by omega
    have hn0 : (0 : Int) ≤ (n : Int) := by omega
    obtain ⟨g, o, A4', c4', rfl, hg, ⟨v0, n0_⟩, hf, -, -, -⟩ := HSP.out.2 n hlt
    have z0_ := hf (o + n * 6)
    have HG := Lib.hid hg
    clear hg hf
    go_wp2_with fail
    clear n0_ z0_
    obtain ⟨wo, hwo⟩ : ∃ x, x = wr.setCell ⟨g, o + n * 6, none⟩ (.string ⟨#[63]⟩) := ⟨_, rfl⟩
    have HSO := Lib.hid (show Spoil S (some ⟨g, o, none⟩) M w5 wo by rw [hwo]; exact HSP.out.name HG.out n _)
    rw [← hwo]
    clear hwo HSP
    go_loopw [8] (fun k wr => ∃ m : Nat, m ≤ M[n].type.args.length ∧ k = .int .i64 m ∧ Spoil S (some ⟨g, o, none⟩) M w5 wr) (fun k _ => M[n].type.args.length - (intOf k).toNat)
    case atStart => exact ⟨0, Nat.zero_le _, rfl, HSO.out⟩
    case round =>
      obtain ⟨m, hm, rfl, hs⟩ := hrel
      have HSP := Lib.hid hs
      clear hs
      obtain ⟨g', o', B4, d4, e, -, -, -, n4_, hr, ha⟩ := HSP.out.2 n hlt
      injection e with e
      injection e with e1 e2
      subst e1 e2
      by_cases hml : m < M[n].type.args.length
      case neg =>
        obtain rfl : m = M[n].type.args.length := by omega
        have hml' : ¬ (M[n].type.args.length : Int) < M[n].type.args.length := by omega
        clear hr ha
        have hzm := HZM.out
        go_wp2_with fail
        go_roundw
        case rel => exact ⟨n + 1, by omega, by go_num, HSP.out⟩
        case measure => simp [intOf]; omega
      have hml' : (m : Int) < M[n].type.args.length := by omega
      have hm0 : (0 : Int) ≤ (m : Int) := by omega
      obtain ⟨b, p, rfl, hSb, hbg, hbf, hc⟩ := ha m hml
      obtain ⟨x0, a0_⟩ := hc 0 (by omega)
      obtain ⟨x1, a1_⟩ := hc 1 (by omega)
      obtain ⟨x2, a2_⟩ := hc 2 (by omega)
      obtain ⟨x3, a3_⟩ := hc 3 (by omega)
      obtain ⟨x4, a4_⟩ := hc 4 (by omega)
      rw [Nat.add_zero] at a0_
      have y0_ := hbf (p + m * 5); have y1_ := hbf (p + m * 5 + 1); have y2_ := hbf (p + m * 5 + 2); have y3_ := hbf (p + m * 5 + 3); have y4_ := hbf (p + m * 5 + 4)
      have HX := Lib.hid (⟨hSb, hbg⟩ : S b ∧ b ≠ g)
      unfold Reach at hr
      clear ha hc hbf hSb hbg
      go_wp2_with fail
      go_roundw
      case rel => exact ⟨m + 1, by omega, by go_num, ((((HSP.out.arg HX.out.1 HX.out.2 _ _).arg HX.out.1 HX.out.2 _ _).arg HX.out.1 HX.out.2 _ _).arg HX.out.1 HX.out.2 _ _).arg HX.out.1 HX.out.2 _ _⟩
      case measure => simp [intOf]; omega
end Go.Proofs.Ytiecbgclkdlpkaa.fr
