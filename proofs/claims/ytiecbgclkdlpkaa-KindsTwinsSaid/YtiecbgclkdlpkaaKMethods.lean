/-
  The walk of KindsMethods. The condition: what is handed in reads.
-/
import Derived.Test.YtiecbgclkdlpkaaKMethE
import Derived.Test.YtiecbgclkdlpkaaKAwake
import Derived.Test.YtiecbgclkdlpkaaKGreat
import Derived.Test.YtiecbgclkdlpkaaSame7
namespace Go.Proofs.Ytiecbgclkdlpkaa
open Go.RowKit
set_option linter.unusedVariables false
set_option linter.unusedSimpArgs false
attribute [local irreducible] wpStill wpOrd wpT

theorem Fld.ds_mapk : ∀ l : List Fld, Fld.ds l = l.map Fld.d
  | [] => rfl
  | t :: r => by simp [Fld.ds, Fld.ds_mapk r]
theorem fld_sl {n : Nat} {w : World} {xs : List Fld} {A : Option Addr} {c : Nat} (h : DV (NewW n none w) (.lst 6 (xs.map Fld.d)) (.slice A xs.length c)) : SL (NewW n none w) 6 (Fld.ds xs) xs.length A c := by
  unfold DV at h
  obtain ⟨A', c', he, h1, h2, h3⟩ := h
  obtain ⟨rfl, -, rfl⟩ := Value.slice.inj he
  rw [List.length_map] at h1 h2
  rw [← Fld.ds_mapk] at h3
  exact ⟨Fld.ds_length _, h1, h2, h3⟩
theorem Fld.mem_sz : ∀ {l : List Fld} {x : Fld}, x ∈ l → x.type.sz ≤ Fld.szL l
  | y :: r, x, h => by
    simp only [Fld.szL, Fld.sz]
    rcases List.mem_cons.1 h with rfl | h
    · omega
    · have := Fld.mem_sz h; omega
theorem Dcl.mem_sz : ∀ {l : List Dcl} {x : Dcl}, x ∈ l → x.sz ≤ Dcl.szL l
  | y :: r, x, h => by
    simp only [Dcl.szL]
    rcases List.mem_cons.1 h with rfl | h
    · omega
    · have := Dcl.mem_sz h; omega
theorem Un.mem_sz : ∀ {l : List Un} {x : Un}, x ∈ l → x.sz ≤ Un.szL l
  | y :: r, x, h => by
    simp only [Un.szL]
    rcases List.mem_cons.1 h with rfl | h
    · omega
    · have := Un.mem_sz h; omega
theorem unitP_sz (us : List Un) (s : ByteArray) : (unitP us s).sz ≤ Un.szL us := by
  unfold unitP
  cases h : us.find? (isU s) with
  | none => exact Nat.le_trans (by decide +kernel : un0.sz ≤ 0) (Nat.zero_le _)
  | some u => exact Un.mem_sz (List.mem_of_find?_eq_some h)
theorem decls_sz {us : List Un} {s : ByteArray} {n : Nat} (h : Un.szL us ≤ n) : (unitP us s).decls.length ≤ n ∧ ∀ d ∈ (unitP us s).decls, d.type.sz ≤ n ∧ d.fields.length ≤ n ∧ ∀ f ∈ d.fields, f.type.sz ≤ n := by
  have h1 := unitP_sz us s
  have h2 : (unitP us s).sz = (unitP us s).imports.length + (unitP us s).decls.length + (unitP us s).bodies.length + Dcl.szL (unitP us s).decls + Fn.szL (unitP us s).bodies := rfl
  refine ⟨by omega, fun d hd => ?_⟩
  have h3 := Dcl.mem_sz hd
  have h4 : d.sz = d.type.sz + d.fields.length + Fld.szL d.fields := rfl
  exact ⟨by omega, by omega, fun f hf => by have := Fld.mem_sz hf; omega⟩
theorem baseP_sz {us : List Un} {t : Ty} {n : Nat} (h : Un.szL us ≤ n) : (baseP us t).length ≤ n ∧ ∀ f ∈ baseP us t, f.type.sz ≤ n := by
  have hd := decls_sz (s := t.pkg) h
  unfold baseP
  split
  · refine ⟨Nat.le_trans (by simpa using List.length_filter_le _ _) hd.1, fun f hf => ?_⟩
    obtain ⟨d, hd1, rfl⟩ := List.mem_map.1 hf
    exact (hd.2 d (List.mem_filter.1 hd1).1).1
  · unfold faceP
    split
    · cases hf : findP us t.pkg t.name with
      | none => exact ⟨Nat.zero_le _, fun f h => absurd h List.not_mem_nil⟩
      | some d =>
        have hm := hd.2 d (List.mem_of_find?_eq_some hf)
        by_cases h4 : d.kind = 4
        · have e : ((some d).filter (fun d => decide (d.kind = 4))) = some d := by simp [Option.filter, h4]
          rw [e]; exact hm.2
        · have e : ((some d).filter (fun d => decide (d.kind = 4))) = none := by simp [Option.filter, h4]
          rw [e]; exact ⟨Nat.zero_le _, fun f h => absurd h List.not_mem_nil⟩
    · exact ⟨Nat.zero_le _, fun f h => absurd h List.not_mem_nil⟩
theorem rawP_sz {us : List Un} {n : Nat} (h : Un.szL us ≤ n) (vars : List Fld) (t : Ty) : (rawP us vars t).length ≤ n ∧ ∀ f ∈ rawP us vars t, f.type.sz ≤ n := by
  unfold rawP
  split
  · exact ⟨Nat.zero_le _, fun f h => absurd h List.not_mem_nil⟩
  · exact baseP_sz h

set_option maxRecDepth 100000 in
set_option maxHeartbeats 3200000 in
theorem kindsMethods_any (w : World) (us : List Un) (A : Option Addr) (c : Nat) (hu : SL w 4 (Un.ds us) us.length A c) (vars : List Fld) (Av : Option Addr) (cv : Nat) (hva : SL w 6 (Fld.ds vars) vars.length Av cv) (t : Ty) (vs : List Value) (hv : Vals w t.d vs) :
    Calls Try.prog 10 #[.slice A us.length c, .slice Av vars.length cv, .agg vs.toArray] w (Ans w (.bool true)) := by
  have HV := Lib.hid hv; have HU := Lib.hid hu; have HVA := Lib.hid hva
  obtain ⟨A3, c3, A4, c4, rfl, q0, q1, q2, q3, q4⟩ := Ty.opn hv
  obtain ⟨wz, hz⟩ : ∃ x, x = w.alloc (.cells #[.int .i64 t.kind, .string t.pkg, .string t.name, .slice A3 t.args.length c3, .slice A4 t.res.length c4] 26) := ⟨_, rfl⟩
  have HB0 := Lib.hid (show Below w.heap.size w wz by rw [hz]; exact (Below.refl w.heap.size w).alloc (Nat.le_refl _) _)
  have HT0 := Lib.hid (show wz.heap[w.heap.size]? = some (.cells #[.int .i64 t.kind, .string t.pkg, .string t.name, .slice A3 t.args.length c3, .slice A4 t.res.length c4] 26 (0, 0)) by rw [hz]; exact alloc_at w _)
  clear hv hu hva q0 q1 q2 q3 q4
  go_enter Try.func10, Try.ntmps10
  go_wp2_with fail
  rw [← hz]
  clear hz
  refine (units_any wz us A c (HU.out.sub (Below.sub HB0.out))).mono ?_
  rintro e w1 ⟨g, rfl, hg, hb⟩
  have HB1 := Lib.hid (HB0.out.trans (hb.mono HB0.out.size))
  have HT1 := Lib.hid ((hb.block _ (lt_of_block HT0.out)).trans HT0.out)
  clear hb HT0
  cases g
  case true =>
    clear hg
    go_wp2_with fail
    refine (awake_any w1).mono ?_
    rintro e wy ⟨rfl, hb⟩
    have HBZ := Lib.hid (HB1.out.trans (hb.mono HB1.out.size)); clear hb
    go_wp2_with fail
    exact bodyPost_ret (results_tmp rfl _ _ _) rfl ⟨rfl, HBZ.out⟩
  have HSU := Lib.hid (show Un.szL us ≤ 2000 from hg rfl)
  clear hg
  go_wp2_with fail
  refine (fields_any w1 vars Av cv (HVA.out.sub (Below.sub HB1.out))).mono ?_
  rintro e w2 ⟨g, rfl, hg, hb⟩
  have HB2 := Lib.hid (HB1.out.trans (hb.mono HB1.out.size))
  have HT2 := Lib.hid ((hb.block _ (lt_of_block HT1.out)).trans HT1.out)
  clear hb hg
  cases g
  case true =>
    go_wp2_with fail
    refine (awake_any w2).mono ?_
    rintro e wy ⟨rfl, hb⟩
    have HBZ := Lib.hid (HB2.out.trans (hb.mono HB2.out.size)); clear hb
    go_wp2_with fail
    exact bodyPost_ret (results_tmp rfl _ _ _) rfl ⟨rfl, HBZ.out⟩
  have t0_ : w2.cell? ⟨w.heap.size, 0, none⟩ = some (.int .i64 t.kind) := (cell_at HT2.out 0).trans rfl
  have t1_ : w2.cell? ⟨w.heap.size, 1, none⟩ = some (.string t.pkg) := (cell_at HT2.out 1).trans rfl
  have t2_ : w2.cell? ⟨w.heap.size, 2, none⟩ = some (.string t.name) := (cell_at HT2.out 2).trans rfl
  have t3_ : w2.cell? ⟨w.heap.size, 3, none⟩ = some (.slice A3 t.args.length c3) := (cell_at HT2.out 3).trans rfl
  have t4_ : w2.cell? ⟨w.heap.size, 4, none⟩ = some (.slice A4 t.res.length c4) := (cell_at HT2.out 4).trans rfl
  go_wp2_with fail
  clear t0_ t1_ t2_ t3_ t4_
  obtain ⟨wx, hx⟩ : ∃ x, x = w2.alloc (.cells #[.int .i64 t.kind, .string t.pkg, .string t.name, .slice A3 t.args.length c3, .slice A4 t.res.length c4] 26) := ⟨_, rfl⟩
  have HX := Lib.hid (show Below w2.heap.size w2 wx by rw [hx]; exact (Below.refl w2.heap.size w2).alloc (Nat.le_refl _) _)
  have HTX := Lib.hid ((HX.out.block _ (lt_of_block HT2.out)).trans HT2.out)
  have HBX := Lib.hid (HB2.out.trans (HX.out.mono HB2.out.size))
  have HNX := Lib.hid (show wx.heap[w2.heap.size]? = some (.cells #[.int .i64 t.kind, .string t.pkg, .string t.name, .slice A3 t.args.length c3, .slice A4 t.res.length c4] 26 (0, 0)) by rw [hx]; exact alloc_at w2 _)
  rw [← hx]
  clear hx
  refine (great_any wx [t] _ 1 (sl_one HNX.out (HV.out.sub (Below.sub HBX.out)))).mono ?_
  rintro e w3 ⟨g, rfl, hg, hb⟩
  have HB3 := Lib.hid (HBX.out.trans (hb.mono HBX.out.size))
  have HT3 := Lib.hid ((hb.block _ (lt_of_block HTX.out)).trans HTX.out)
  clear hb hg HNX HTX
  cases g
  case true =>
    go_wp2_with fail
    refine (awake_any w3).mono ?_
    rintro e wy ⟨rfl, hb⟩
    have HBZ := Lib.hid (HB3.out.trans (hb.mono HB3.out.size)); clear hb
    go_wp2_with fail
    exact bodyPost_ret (results_tmp rfl _ _ _) rfl ⟨rfl, HBZ.out⟩
  have t0_ : w3.cell? ⟨w.heap.size, 0, none⟩ = some (.int .i64 t.kind) := (cell_at HT3.out 0).trans rfl
  have t1_ : w3.cell? ⟨w.heap.size, 1, none⟩ = some (.string t.pkg) := (cell_at HT3.out 1).trans rfl
  have t2_ : w3.cell? ⟨w.heap.size, 2, none⟩ = some (.string t.name) := (cell_at HT3.out 2).trans rfl
  have t3_ : w3.cell? ⟨w.heap.size, 3, none⟩ = some (.slice A3 t.args.length c3) := (cell_at HT3.out 3).trans rfl
  have t4_ : w3.cell? ⟨w.heap.size, 4, none⟩ = some (.slice A4 t.res.length c4) := (cell_at HT3.out 4).trans rfl
  go_wp2_with fail
  clear t0_ t1_ t2_ t3_ t4_
  have HRZ := Lib.hid (rawP_sz HSU.out vars t)
  refine (kmeth_any w w3 HB3.out us A c HU.out vars Av cv HVA.out t _ HV.out (Nat.le_trans HRZ.out.1 (by decide)) (fun f hf => Nat.le_trans (HRZ.out.2 f hf) (by decide)) (Nat.le_trans (decls_sz (s := t.pkg) HSU.out).1 (by decide))).mono ?_
  rintro e w4 ⟨M, hM, B, d, rfl, hsl, -, hb⟩
  have HM := Lib.hid hM
  have HB4 := Lib.hid (HB3.out.trans (hb.mono HB3.out.size))
  have HT4 := Lib.hid ((hb.block _ (lt_of_block HT3.out)).trans HT3.out)
  have HS4 := Lib.hid (show SL w4 6 (Fld.ds M) M.length B d from (fld_sl hsl).sub (new_sub _ _ _))
  clear hb hsl hM
  have t0_ : w4.cell? ⟨w.heap.size, 0, none⟩ = some (.int .i64 t.kind) := (cell_at HT4.out 0).trans rfl
  have t1_ : w4.cell? ⟨w.heap.size, 1, none⟩ = some (.string t.pkg) := (cell_at HT4.out 1).trans rfl
  have t2_ : w4.cell? ⟨w.heap.size, 2, none⟩ = some (.string t.name) := (cell_at HT4.out 2).trans rfl
  have t3_ : w4.cell? ⟨w.heap.size, 3, none⟩ = some (.slice A3 t.args.length c3) := (cell_at HT4.out 3).trans rfl
  have t4_ : w4.cell? ⟨w.heap.size, 4, none⟩ = some (.slice A4 t.res.length c4) := (cell_at HT4.out 4).trans rfl
  go_wp2_with fail
  clear t0_ t1_ t2_ t3_ t4_
  refine (rmeth_any w w4 HB4.out us A c HU.out vars Av cv HVA.out t _ HV.out (Nat.le_trans HRZ.out.1 (by decide))).mono ?_
  rintro e w5 ⟨M', B', d', hM', rfl, hsl, hb⟩
  obtain rfl := IsStable.unique HM.out hM'
  have HB5 := Lib.hid (HB4.out.trans (hb.mono HB4.out.size))
  have HS5 := Lib.hid hsl
  have HS6 := Lib.hid (HS4.out.sub (Below.sub hb))
  clear hb hsl hM'
  go_wp2_with fail
  refine (eqFldLV M M w5 _ _ _ _ HS6.out HS5.out).mono ?_
  rw [(eqFldL_iff M M).2 rfl]
  rintro e w6 ⟨rfl, hb⟩
  have HB6 := Lib.hid (HB5.out.trans (hb.mono HB5.out.size)); clear hb
  go_wp2_with fail
  refine (awake_any w6).mono ?_
  rintro e wy ⟨rfl, hb⟩
  have HBZ := Lib.hid (HB6.out.trans (hb.mono HB6.out.size)); clear hb
  go_wp2_with fail
  exact bodyPost_ret (results_tmp rfl _ _ _) rfl ⟨rfl, HBZ.out⟩
end Go.Proofs.Ytiecbgclkdlpkaa
