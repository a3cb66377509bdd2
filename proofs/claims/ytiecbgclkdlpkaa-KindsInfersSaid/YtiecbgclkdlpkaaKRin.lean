/-
  The walk of mortiseref7.Infer: the types that variables must have. The conditions: what is handed in reads; the types and the names are not too many.
-/
import Derived.Test.YtiecbgclkdlpkaaKRinA
namespace Go.Proofs.Ytiecbgclkdlpkaa
open Go.RowKit
set_option linter.unusedVariables false
set_option linter.unusedSimpArgs false
attribute [local irreducible] wpStill wpOrd wpT

theorem make_row {P : Program} (t e : TypeId) (z : Value) (size bytes : Nat) (ht : P.underlying t = some (.slice e)) (hinfo : (P.info? e).map (fun i => (i.zero, i.size, i.bytes)) = some (some z, size, bytes)) (n : Nat) (hb : bytes * n ≤ 281474976710656) (hn : n ≤ 9223372036854775807) (w : World) :
    (Instr.makeSlice t (.int .i64 (n : Int)) (.int .i64 (n : Int))).run P w = .ok (.slice (some ⟨w.heap.size, 0, none⟩) n n) (w.alloc (.cells (madeCells z.cells (n * size)) e)) := by
  obtain ⟨i, hi, hzz⟩ := Option.map_eq_some_iff.1 hinfo
  simp only [Prod.mk.injEq] at hzz
  obtain ⟨hz, hs, hb'⟩ := hzz
  subst hs hb'
  have h2 : (i.bytes : Int) * (n : Int) ≤ 281474976710656 := by
    have h : ((i.bytes * n : Nat) : Int) ≤ 281474976710656 := by omega
    rwa [Int.natCast_mul] at h
  have hr := run_make (P := P) w t e i z ht hi hz .i64 .i64 n n (by omega) (Int.le_refl _) h2 (by omega)
  simpa only [Int.toNat_natCast] using hr

def RInferR (w : World) (r : Option (List Ty)) (e : Ending) (w' : World) : Prop :=
  (r = none ∧ e = .returned (.tuple #[.slice none 0 0, .bool false]) ∧ Below w.heap.size w w') ∨
  ∃ ts A c, r = some ts ∧ e = .returned (.tuple #[.slice A ts.length c, .bool true]) ∧ SL w' 5 (Ty.ds ts) ts.length A c ∧ Below w.heap.size w w'

set_option maxRecDepth 100000 in
set_option maxHeartbeats 6400000 in
theorem rinfer_any (w : World) (names : List ByteArray) (ps qs : List Ty) (An Ap Aa : Option Addr) (cn cp ca : Nat) (hn : SL w 1 (strs names) names.length An cn) (hp : SL w 5 (Ty.ds ps) ps.length Ap cp) (ha : SL w 5 (Ty.ds qs) qs.length Aa ca)
    (hnl : names.length ≤ 1000000) (hsz : ∀ x ∈ qs, x.sz ≤ 1000000) :
    Calls Try.prog 23 #[.slice An names.length cn, .slice Ap ps.length cp, .slice Aa qs.length ca] w (RInferR w (inferP names ps qs)) := by
  obtain ⟨m, hm⟩ : ∃ m, m = infL names ps qs (fun _ => none) := ⟨_, rfl⟩
  have HIN := Lib.hid (show inferP names ps qs = inferGo m names by rw [hm]; rfl)
  have HME := Lib.hid hm
  have HSM := Lib.hid (show allM (fun t => t.sz ≤ 1000000) m by rw [hm]; exact infL_all (pre_sz _) names ps qs _ hsz (fun s t h => by cases h))
  have hcw : Chg (fun _ => False) w ((w.alloc (.cells (madeCells #[.int .i64 0, .string ⟨#[]⟩, .string ⟨#[]⟩, .slice none 0 0, .slice none 0 0] (names.length * 5)) 26)).alloc (.cells (madeCells #[.bool false] names.length) 4)) := ((Chg.refl _ w).alloc _).alloc _
  have HS2 := Lib.hid (show WS w names w.heap.size (w.heap.size + 1) ((w.alloc (.cells (madeCells #[.int .i64 0, .string ⟨#[]⟩, .string ⟨#[]⟩, .slice none 0 0, .slice none 0 0] (names.length * 5)) 26)).alloc (.cells (madeCells #[.bool false] names.length) 4)) (fun _ => none) from ⟨hcw.below, Nat.le_refl _, by omega, _, _, TSt.made w 26 4 names.length, fun s _ => rfl⟩)
  have hmk1 := make_row (P := Try.prog) 24 26 (.agg #[.int .i64 0, .string ⟨#[]⟩, .string ⟨#[]⟩, .slice none 0 0, .slice none 0 0]) 5 88 Try.underlying24 Try.infnTy names.length (by omega) (by omega)
  have hmk2 := make_row (P := Try.prog) 74 4 (.bool false) 1 1 (by kernel_rfl) (by kernel_rfl) names.length (by omega) (by omega)
  have HN := Lib.hid hn; have HP := Lib.hid hp; have HA := Lib.hid ha; have HSZ := Lib.hid hsz
  have hpl := hp.2.2.1; have hal := ha.2.2.1
  unfold Reach at hpl hal
  clear hn hp ha hsz hm hcw
  go_enter Try.func23, Try.ntmps23
  go_wp2_with fail
  obtain ⟨wz, hwz⟩ : ∃ x, x = ((w.alloc (.cells (madeCells #[.int .i64 0, .string ⟨#[]⟩, .string ⟨#[]⟩, .slice none 0 0, .slice none 0 0] (names.length * 5)) 26)).alloc (.cells (madeCells #[.bool false] names.length) 4)) := ⟨_, rfl⟩
  have hs2 := HS2.out
  rw [← hwz] at hs2
  rw [← hwz]
  have hsz2 : w.heap.size + 2 ≤ wz.heap.size := by rw [hwz]; simp
  clear hwz HS2 hmk1 hmk2
  have HS2 := Lib.hid hs2
  clear hs2
  obtain ⟨b1, hb1⟩ : ∃ x, x = w.heap.size := ⟨_, rfl⟩
  obtain ⟨b2, hb2⟩ : ∃ x, x = w.heap.size + 1 := ⟨_, rfl⟩
  have hs2 := HS2.out
  rw [← hb2, ← hb1] at hs2
  rw [← hb2, ← hb1]
  clear HS2
  have HS2 := Lib.hid hs2
  have HE1 := Lib.hid hb1; have HE2 := Lib.hid hb2
  clear hs2 hb1 hb2 hsz2
  go_loopw [10] (fun i wr => ∃ (k : Nat) (m' : TyM), k ≤ ps.length ∧ k ≤ qs.length ∧ i = .int .i64 k ∧ WS w names b1 b2 wr m' ∧ infL names (ps.drop k) (qs.drop k) m' = m) (fun i _ => ps.length - (intOf i).toNat)
  case atStart => exact ⟨0, _, Nat.zero_le _, Nat.zero_le _, rfl, HS2.out, HME.out.symm⟩
  case round =>
    obtain ⟨k, m', hk, hk', rfl, hS, hL⟩ := hrel
    have HS := Lib.hid hS; have HL := Lib.hid hL
    clear hS hL
    have hst : k < ps.length ∧ k < qs.length ∨ (¬ k < ps.length ∨ k < ps.length ∧ ¬ k < qs.length) := by omega
    rcases hst with ⟨hlt, hlt2⟩ | hend
    · have hlt1_ : (k : Int) < ps.length := by omega
      have hlt2_ : (k : Int) < qs.length := by omega
      obtain ⟨bp, op, hAp, E3, f3, E4, f4, e0, e1, e2, e3, e4, z0, z1, z2, z3, z4⟩ := Ty.at HP.out.2.2.2 k hlt
      obtain ⟨bq, oq, hAq, G3, g3, G4, g4, d0, d1, d2, d3_, d4_, s0, s1, s2, s3, s4⟩ := Ty.at HA.out.2.2.2 k hlt2
      subst hAp hAq
      have HST := Lib.hid (infL_step names ps qs m' k hlt hlt2)
      have HVP := Lib.hid (Ty.shut (w := w) (t := ps[k]) z0 z1 z2 z3 z4)
      have HVQ := Lib.hid (Ty.shut (w := w) (t := qs[k]) s0 s1 s2 s3 s4)
      have HKQ := Lib.hid (List.getElem_mem hlt2)
      have hp0 : bp < w.heap.size := World.block_lt_of_cell? w (a := ⟨bp, op + k * 5, none⟩) e0
      have hq0 : bq < w.heap.size := World.block_lt_of_cell? w (a := ⟨bq, oq + k * 5, none⟩) d0
      have HNP := Lib.hid (show ¬ B12 b1 b2 bp by show ¬ (_ = _ ∨ _ = _); have := HE1.out; have := HE2.out; omega); have HNQ := Lib.hid (show ¬ B12 b1 b2 bq by show ¬ (_ = _ ∨ _ = _); have := HE1.out; have := HE2.out; omega)
      have hsub := Below.sub HS.out.below
      have F0 := hsub _ _ e0; have F1 := hsub _ _ e1; have F2 := hsub _ _ e2; have F3 := hsub _ _ e3; have F4 := hsub _ _ e4
      have J0 := hsub _ _ d0; have J1 := hsub _ _ d1; have J2 := hsub _ _ d2; have J3 := hsub _ _ d3_; have J4 := hsub _ _ d4_
      clear hsub e0 e1 e2 e3 e4 z0 z1 z2 z3 z4 d0 d1 d2 d3_ d4_ s0 s1 s2 s3 s4 hp0 hq0
      go_wp2_with fail
      refine wp_region_otN (fun wS => Chg (B12 b1 b2) wr wS) (.get 0 (.get 1 (.get 2 (.get 3 (.get 4 (.get 5 (.get 6 (.get 7 (.get 8 (.get 9 (.get 10 (.one 11 .done)))))))))))) (by kernel_rfl) (by kernel_rfl) (Chg.refl _ _).drew ?_
      apply wpT_get rfl
      · go_simp
      · intro wS hS
        go_simp
        try rfl
      intro K hK
      go_simp
      refine hK _ ?_
      clear hK K
      apply wpT_get rfl
      · go_simp
      · intro wS hS
        go_simp
        try rfl
      intro K hK
      go_simp
      refine hK _ ?_
      clear hK K
      apply wpT_get rfl
      · go_simp
      · intro wS hS
        go_simp
        try rfl
      intro K hK
      go_simp
      refine hK _ ?_
      clear hK K
      apply wpT_get rfl
      · go_simp
      · intro wS hS
        go_simp
        try rfl
      intro K hK
      go_simp
      refine hK _ ?_
      clear hK K
      apply wpT_get rfl
      · go_simp
      · intro wS hS
        go_simp
        try rfl
      intro K hK
      go_simp
      refine hK _ ?_
      clear hK K
      apply wpT_get rfl
      · go_simp
      · intro wS hS
        go_simp
        try rfl
      intro K hK
      go_simp
      refine hK _ ?_
      clear hK K
      apply wpT_get rfl
      · go_simp
      · intro wS hS
        have x0 := hS.cell F0 HNP.out
        have x1 := hS.cell F1 HNP.out
        have x2 := hS.cell F2 HNP.out
        have x3 := hS.cell F3 HNP.out
        have x4 := hS.cell F4 HNP.out
        go_simp
        try rfl
      intro K hK
      go_simp
      refine hK _ ?_
      clear hK K
      apply wpT_get rfl
      · go_simp
      · intro wS hS
        go_simp
        try rfl
      intro K hK
      go_simp
      refine hK _ ?_
      clear hK K
      apply wpT_get rfl
      · go_simp
      · intro wS hS
        go_simp
        try rfl
      intro K hK
      go_simp
      refine hK _ ?_
      clear hK K
      apply wpT_get rfl
      · go_simp
      · intro wS hS
        go_simp
        try rfl
      intro K hK
      go_simp
      refine hK _ ?_
      clear hK K
      apply wpT_get rfl
      · go_simp
      · intro wS hS
        have x0 := hS.cell J0 HNQ.out
        have x1 := hS.cell J1 HNQ.out
        have x2 := hS.cell J2 HNQ.out
        have x3 := hS.cell J3 HNQ.out
        have x4 := hS.cell J4 HNQ.out
        go_simp
        try rfl
      intro K hK
      go_simp
      refine hK _ ?_
      clear hK K
      refine wpT_one rfl (fun K hK => ?_)
      go_wp2_with fail
      refine (rwlk names ps[k] w wr.drew b1 b2 m' _ _ _ _ _ (HS.out.keep (Chg.refl _ _).drew) HN.out HVP.out HVQ.out (HSZ.out _ HKQ.out)).mono ?_
      rintro e w1 ⟨rfl, hs1, hc1⟩
      have HS1 := Lib.hid hs1; have HC1 := Lib.hid ((Chg.refl (B12 b1 b2) wr).drew.trans hc1 (fun _ _ e => e))
      clear hs1 hc1
      go_wp2_with fail
      refine hK _ _ HC1.out ?_
      clear hK K
      refine wpT_doneN ?_
      go_wp2_with fail
      go_roundw
      case rel => exact ⟨k + 1, _, by omega, by omega, by go_num, HS1.out, by rw [← HST.out]; exact HL.out⟩
      case measure => simp [intOf]; omega
    · have HST := Lib.hid (show m' = m by rw [← HL.out]; exact (infL_stop names _ _ _ _ (by omega)).symm)
      have hend' : ¬ (k : Int) < ps.length ∨ ((k : Int) < ps.length ∧ ¬ (k : Int) < qs.length) := by omega
      clear hend hk hk'
      rcases hend' with hen | ⟨hen, hen2⟩
      all_goals
        obtain ⟨wy, rfl⟩ : ∃ x, x = wr := ⟨_, rfl⟩
        have HSY := Lib.hid HS.out
        rw [HST.out] at HSY
        clear HS HST HL
        go_wp2_with fail
        go_loopw [11] (fun i wr => ∃ (j : Nat) (hs : Nat → Bool) (st : Nat → Ty), j ≤ names.length ∧ i = .int .i64 j ∧ TSt 26 4 names.length b1 b2 wr hs st ∧ NSt names hs st m ∧ Below w.heap.size w wr ∧ ∀ x (h : x < names.length), x < j → m names[x] = some (st x) ∧ badT (st x) = false) (fun i _ => names.length - (intOf i).toNat)
        case atStart =>
          obtain ⟨hs, st, h1, h2⟩ := HSY.out.st
          exact ⟨0, hs, st, Nat.zero_le _, rfl, h1, h2, HSY.out.below, fun x _ h => absurd h (Nat.not_lt_zero _)⟩
        case round =>
          obtain ⟨j, hs, st, hj, rfl, ht, hm, hb, hok⟩ := hrel
          have HT := Lib.hid ht; have HM := Lib.hid hm; have HB := Lib.hid hb; have HOK := Lib.hid hok
          clear ht hm hb hok
          by_cases hlt : j < names.length
          · have hlt' : (j : Int) < names.length := by omega
            obtain ⟨bn, on_, hAn, e0, _⟩ := strs_at HN.out.2.2.2 j hlt
            subst hAn
            have E0 := Below.sub HB.out _ _ e0
            have HIX := Lib.hid (place_any wr names _ cn (HN.out.sub (Below.sub HB.out)) names[j])
            obtain ⟨hp1, hp2⟩ := placeN_self hlt
            have HPI := Lib.hid (show placeI names names[j] = (placeN names names[j] : Int) by unfold placeI; rw [if_pos hp1])
            rw [HPI.out] at HIX
            have HMP := Lib.hid (HM.out names[j] hp1)
            have HMA := Lib.hid (HM.out.again hlt)
            obtain ⟨k, hkk⟩ : ∃ k, k = placeN names names[j] := ⟨_, rfl⟩
            rw [← hkk] at HIX HMP HMA hp1 hp2
            clear HPI hkk e0
            have hkn : (k : Int) < names.length := by omega
            obtain ⟨G3, g3, G4, g4, hvk, ⟨x0, x1, x2, x3, x4⟩, _⟩ := HT.out.at hp1
            have HVK := Lib.hid hvk
            obtain ⟨H3, h3, H4, h4, _, ⟨r0, r1, r2, r3, r4⟩, hfz⟩ := HT.out.at hlt
            have hh := (HT.out.hasAt hp1).1
            have hb1 := HT.out.lt.1
            clear hvk
            have hcase : hs k = false ∨ hs k = true ∧ ((st k).kind = 4 ∨ ¬ (st k).kind = 4 ∧ (st k).kind = 0) ∨ hs k = true ∧ badT (st k) = false := by
              cases hs k with
              | false => exact .inl rfl
              | true =>
                refine .inr ?_
                by_cases h4 : (st k).kind = 4
                · exact .inl ⟨rfl, .inl h4⟩
                by_cases h0 : (st k).kind = 0
                · exact .inl ⟨rfl, .inr ⟨h4, h0⟩⟩
                · exact .inr ⟨rfl, by unfold badT; rw [decide_eq_false h4, decide_eq_false h0]; rfl⟩
            rcases hcase with z | ⟨z, hbad⟩ | ⟨z, hgood⟩
            · have HNO := Lib.hid (show inferP names ps qs = none by rw [HIN.out]; exact inferGo_none names j hlt (.inl (by rw [HMP.out, z]; rfl)))
              rw [z] at hh
              clear z
              go_wp2_with fail
              refine HIX.out.mono ?_
              rintro e w' ⟨rfl, rfl⟩
              go_wp2_with fail
              refine bodyPost_ret (v := .tuple #[.slice none 0 0, .bool false]) (by simp [results, Try.results23, go_sem]) rfl ?_
              exact .inl ⟨HNO.out, rfl, HB.out⟩
            · have HNO := Lib.hid (show inferP names ps qs = none by rw [HIN.out]; exact inferGo_none names j hlt (.inr ⟨st k, by rw [HMP.out, z]; rfl, by unfold badT; rcases hbad with h | ⟨_, h⟩ <;> rw [h] <;> rfl⟩))
              rw [z] at hh
              clear z
              have kb : ∃ c4 c0 : Bool, ((st k).kind == 4) = c4 ∧ ((st k).kind == 0) = c0 ∧ (c4 = true ∨ c4 = false ∧ c0 = true) := ⟨_, _, rfl, rfl, by
                rcases hbad with h | ⟨h, h'⟩
                · exact .inl (by simp [h])
                · exact .inr ⟨by simp [h'], by simp [h']⟩⟩
              obtain ⟨c4, c0, kc4, kc0, hcc⟩ := kb
              clear hbad
              rcases hcc with rfl | ⟨rfl, rfl⟩
              all_goals
                go_wp2_with fail
                refine HIX.out.mono ?_
                rintro e w' ⟨rfl, rfl⟩
                go_wp2_with fail
                refine bodyPost_ret (v := .tuple #[.slice none 0 0, .bool false]) (by simp [results, Try.results23, go_sem]) rfl ?_
                exact .inl ⟨HNO.out, rfl, HB.out⟩
            · have HMJ := Lib.hid (show m names[j] = some (st k) by rw [HMP.out, z]; rfl)
              have HGD := Lib.hid hgood
              have kc4 : ((st k).kind == 4) = false := by unfold badT at hgood; simp only [Bool.or_eq_false_iff, decide_eq_false_iff_not] at hgood; simp [hgood.1]
              have kc0 : ((st k).kind == 0) = false := by unfold badT at hgood; simp only [Bool.or_eq_false_iff, decide_eq_false_iff_not] at hgood; simp [hgood.2]
              rw [z] at hh
              clear z hgood
              have HCP := Lib.hid (rcopC (st k) (HSM.out _ _ HMJ.out) wr _ (HVK.out.sub (hid_sub _ _)))
              go_wp2_with fail
              refine HIX.out.mono ?_
              rintro e w' ⟨rfl, rfl⟩
              go_wp2_with fail
              refine HCP.out.mono ?_
              obtain ⟨y, hy⟩ : ∃ y, y = st k := ⟨_, rfl⟩
              rw [← hy]
              have HY := Lib.hid hy
              clear hy
              rintro e w2 ⟨vs, rfl, hv2, hbw⟩
              have HV2 := Lib.hid hv2
              obtain ⟨E3, f3, E4, f4, rfl, _⟩ := Ty.opn hv2
              have hcb : Chg (fun _ => False) wr w2 := below_none hbw
              have ht2 := HT.out.keep hcb
              have HT2 := Lib.hid ht2
              have HB2 := Lib.hid (HB.out.trans (hbw.mono HB.out.size))
              have HLT2 := Lib.hid HT.out.lt
              clear x0 x1 x2 x3 x4 r0 r1 r2 r3 r4 hfz hh hb1
              obtain ⟨H3, h3, H4, h4, _, ⟨r0, r1, r2, r3, r4⟩, hfz⟩ := ht2.at hlt
              have z0 : w2.frozen? ⟨b1, j * 5, none⟩ = false := hfz 0 (by omega)
              have z1 := hfz 1 (by omega); have z2 := hfz 2 (by omega); have z3 := hfz 3 (by omega); have z4 := hfz 4 (by omega)
              have hb12 := ht2.lt.1
              have HV3 := Lib.hid (show Vals (HidW (two b1 b2) w2) y.d [.int .i64 y.kind, .string y.pkg, .string y.name, .slice E3 y.args.length f3, .slice E4 y.res.length f4] from HV2.out.sub fun ad u q => by
                obtain ⟨q1, q2⟩ := (new_cell _ _ _ _ _).1 q
                refine (hid_cell _ _ _ _).2 ⟨?_, q2⟩
                cases hc : two b1 b2 ad.block with
                | false => rfl
                | true => exact absurd (.inl (by have := HLT2.out; rcases two_iff.1 hc with e | e <;> rw [e] <;> omega)) q1)
              have HT5 := Lib.hid (HT2.out.setTy hlt HV3.out)
              rw [HY.out] at HT5
              rw [← HY.out] at HT5
              have HB5 := Lib.hid (Below.chg HB2.out (set5_chg w2 b1 (j * 5) (.int .i64 y.kind) (.string y.pkg) (.string y.name) (.slice E3 y.args.length f3) (.slice E4 y.res.length f4)) HB2.out.size (fun i q => by rw [q, HE1.out]; exact Nat.le_refl _))
              have HNX := Lib.hid (show ∀ x (h : x < names.length), x < j + 1 → m names[x] = some (upd st j y x) ∧ badT (upd st j y x) = false from fun x hx hxj => by
                by_cases e : x = j
                · subst e; rw [upd_at, HY.out]; exact ⟨HMJ.out, HGD.out⟩
                · rw [upd_ne _ _ e]; exact HOK.out x hx (by omega))
              have HMA2 := Lib.hid (show NSt names hs (upd st j y) m by rw [HY.out]; exact HMA.out)
              clear hv2 hbw hcb ht2 hfz
              go_wp2_with fail
              go_roundw
              case rel => exact ⟨j + 1, hs, upd st j y, by omega, by go_num, HT5.out, HMA2.out, HB5.out, HNX.out⟩
              case measure => simp [intOf]; omega
          · obtain rfl : j = names.length := by omega
            have HSL := Lib.hid (HT.out.sl (by unfold Reach; omega))
            have HYS := Lib.hid (show inferP names ps qs = some ((List.range names.length).map st) by rw [HIN.out]; exact inferGo_all names st (fun x hx => HOK.out x hx hx))
            go_wp2_with fail
            refine bodyPost_ret (v := .tuple #[.slice (some ⟨b1, 0, none⟩) names.length names.length, .bool true]) (by simp [results, Try.results23, go_sem]) rfl ?_
            exact .inr ⟨_, some ⟨b1, 0, none⟩, names.length, HYS.out, by rw [List.length_map, List.length_range], by rw [List.length_map, List.length_range]; exact HSL.out, HB.out⟩
end Go.Proofs.Ytiecbgclkdlpkaa
