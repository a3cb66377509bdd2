/-
  The walk of mortiselaw8.ExportBack: it answers true. The condition: the unit reads.
-/
import Derived.Test.YtghnaaahkbnhlaaEncodes
import Derived.Test.YtghnaaahkbnhlaaUnlike
import Derived.Test.YtghnaaahkbnhlaaRdK
import Derived.Test.YtghnaaahkbnhlaaDecL
namespace Go.Proofs.Ytghnaaahkbnhlaa
open Go.RowKit
set_option linter.unusedVariables false
set_option linter.unusedSimpArgs false
attribute [local irreducible] wpStill wpOrd

/-- While the declarations' names are spoilt: blocks from lo to hi alone change. -/
structure Spoilt (lo hi : Nat) (A : Option Addr) (n : Nat) (w wr : World) : Prop where
  chg : Chg (fun j => lo ≤ j ∧ j < hi) w wr
  row : 0 < n → ∃ g cur e, A = some ⟨g, 0, none⟩ ∧ lo ≤ g ∧ g < hi ∧ wr.heap[g]? = some (.cells cur e (0, 0)) ∧ n * 10 ≤ cur.size
theorem Spoilt.start {lo base n : Nat} {w w5 : World} {A : Option Addr} {c : Nat} {e : TypeId} {segs : List Value} (ho : w.ownsRow base e 10 (.slice A n c) n segs) (hb : lo ≤ base) (h5 : Below w.heap.size w w5) : Spoilt lo w.heap.size A n w5 w5 := by
  refine ⟨Chg.refl _ _, fun h0 => ?_⟩
  rcases ho.2 with ⟨_, h⟩ | ⟨g, cap, cur, h1, h2, h3, h4, _, h6, _⟩
  · omega
  · injection h1 with e1
    have hg := lt_of_block h3
    refine ⟨g, cur, e, e1, by omega, hg, ?_, ?_⟩
    · rw [h5.block g hg]; exact h3
    · rw [h6]; exact Nat.mul_le_mul_right 10 h4
theorem Spoilt.next {lo hi n : Nat} {A : Option Addr} {w wr : World} (h : Spoilt lo hi A n w wr) {g : Nat} (hA : A = some ⟨g, 0, none⟩) (hg : lo ≤ g ∧ g < hi) (i : Nat) (v : Value) : Spoilt lo hi A n w (wr.setCell ⟨g, i, none⟩ v) := by
  refine ⟨h.chg.trans ((Chg.refl (fun j => j = g) _).setCell (p := ⟨g, i, none⟩) (fun _ => rfl) v) (fun j _ e => by omega), fun h0 => ?_⟩
  obtain ⟨g', cur, e, h1, h2, h3, h4, h5⟩ := h.row h0
  rw [hA] at h1
  injection h1 with h1
  injection h1 with h1
  subst h1
  exact ⟨g, _, e, hA, h2, h3, set_at h4 i v, by simpa using h5⟩
/-- While the bytes are wiped. -/
structure Wiped (g sz : Nat) (w wr : World) : Prop where
  chg : Chg (fun j => j = g) w wr
  row : ∃ cur, wr.heap[g]? = some (.cells cur 5 (0, 0)) ∧ sz ≤ cur.size
theorem Wiped.next {g sz : Nat} {w wr : World} (h : Wiped g sz w wr) (i : Nat) (v : Value) : Wiped g sz w (wr.setCell ⟨g, i, none⟩ v) := by
  obtain ⟨cur, h1, h2⟩ := h.row
  exact ⟨h.chg.trans ((Chg.refl (fun j => j = g) _).setCell (p := ⟨g, i, none⟩) (fun _ => rfl) v) (fun j _ e => e), _, set_at h1 i v, by simpa using h2⟩

set_option maxRecDepth 100000 in
set_option maxHeartbeats 6400000 in
theorem back_any (u : Un) (w : World) (vs : List Value) (hu : Vals w u.d vs) : Calls Try.prog 7 #[.agg vs.toArray] w (Ans w (.bool true)) := by
  have OU := Lib.hid (okUn_of hu)
  have HU := Lib.hid hu
  obtain ⟨A1, c1, A2, c2, A3, c3, rfl, q0, q1, q2, q3⟩ := Un.opn hu
  have hA1 := alloc_at w (.cells #[.string u.pkg, .slice A1 u.imports.length c1, .slice A2 u.decls.length c2, .slice A3 u.bodies.length c3] 30)
  have EU0 := Lib.hid ((cell_at hA1 0).trans rfl : _ = some (.string u.pkg))
  have EU1 := Lib.hid ((cell_at hA1 1).trans rfl : _ = some (.slice A1 u.imports.length c1))
  have EU2 := Lib.hid ((cell_at hA1 2).trans rfl : _ = some (.slice A2 u.decls.length c2))
  have EU3 := Lib.hid ((cell_at hA1 3).trans rfl : _ = some (.slice A3 u.bodies.length c3))
  have HW := Lib.hid ((Below.refl _ w).alloc (Nat.le_refl _) (.cells #[.string u.pkg, .slice A1 u.imports.length c1, .slice A2 u.decls.length c2, .slice A3 u.bodies.length c3] 30) : Below w.heap.size w (w.alloc (.cells #[.string u.pkg, .slice A1 u.imports.length c1, .slice A2 u.decls.length c2, .slice A3 u.bodies.length c3] 30)))
  have HL2 := Lib.hid (show u.decls.length ≤ Reach from q2.2.2.1)
  clear hA1 hu q0 q1 q2 q3
  go_enter Try.func7, Try.ntmps7
  go_wp2_with fail
  refine (great_any u _ _ (HU.out.sub (Below.sub HW.out))).mono ?_
  rintro e w1 ⟨g, rfl, hg, hb1⟩
  have B1 := Lib.hid (HW.out.trans (hb1.mono HW.out.size))
  have C1 := Lib.hid hb1; clear hb1 hg
  cases g
  case true =>
    go_wp2_with fail
    refine (awake_any _).mono ?_
    rintro e wz ⟨rfl, hb⟩
    have BZ := Lib.hid (B1.out.trans (hb.mono B1.out.size)); clear hb
    go_wp2_with fail
    exact bodyPost_ret (results_tmp rfl _ _ _) rfl ⟨rfl, BZ.out⟩
  have y0 := Below.sub C1.out _ _ EU0.out
  have y1 := Below.sub C1.out _ _ EU1.out
  have y2 := Below.sub C1.out _ _ EU2.out
  have y3 := Below.sub C1.out _ _ EU3.out
  go_wp2_with fail
  refine (encode_any _ u _ (HU.out.sub (Below.sub B1.out))).mono ?_
  rintro e w2 ⟨A, c, rfl, own1, hb2⟩
  have R1 := Lib.hid (rdB_own own1).2; have N1 := Lib.hid own1; clear own1
  have B2 := Lib.hid (B1.out.trans (hb2.mono B1.out.size))
  have C2 := Lib.hid (C1.out.trans (hb2.mono C1.out.size))
  have S2 := Lib.hid hb2.size; clear hb2 y0 y1 y2 y3
  by_cases he : (encodeP u).2 = 0
  case neg =>
    rcases encodeP_two (u := u) with h | ⟨h, hnil⟩
    · exact absurd h he
    rw [hnil]
    rcases h with h | h
    all_goals
      rw [h]
      clear h hnil he
      go_wp2_with (first | (go_at_call 14; refine (num_call _ _).mono ?_; rintro e w' ⟨rfl, rfl⟩))
      refine (awake_any _).mono ?_
      rintro e wz ⟨rfl, hb⟩
      have BZ := Lib.hid (B2.out.trans (hb.mono B2.out.size)); clear hb
      go_wp2_with fail
      exact bodyPost_ret (results_tmp rfl _ _ _) rfl ⟨rfl, BZ.out⟩
  have HDE := Lib.hid (decode_encode OU.out he)
  have HEQ := Lib.hid (show encodeP u = ((encodeP u).1, 0) by rw [← he])
  have hbl := (encodeP_ok he).2
  have hlen : (encodeP u).1.length ≤ 262144 := by rw [hbl.2, List.length_append, le8_length]; omega
  have hpos := encodeP_pos he
  rw [he]
  clear hbl he OU
  generalize (encodeP u).1 = b at R1 N1 HDE HEQ hlen hpos
  have hp' : ¬ (b.length : Int) = 0 := by omega
  obtain ⟨gb, cb, curb, rfl, hgb1, hgb2, hgb3, hgb4⟩ : ∃ gb cap cur, A = some ⟨gb, 0, none⟩ ∧ w1.heap.size ≤ gb ∧ w2.heap[gb]? = some (.cells cur 5 (0, 0)) ∧ b.length ≤ cur.size ∧ b.length ≤ c := by
    rcases N1.out.2 with ⟨_, h⟩ | ⟨g, cap, cur, h, h2, h3, h4, _, h6, _⟩
    · omega
    · injection h with h h7 h8
      exact ⟨g, cap, cur, h, h2, h3, by rw [h6, Nat.mul_one]; exact h4, by omega⟩
  have HGB := Lib.hid hgb2; have HGBS := Lib.hid hgb3; have HGC := Lib.hid hgb4; have HGL := Lib.hid hgb1
  clear hgb1 hgb2 hgb3 hgb4
  have HDC := Lib.hid (decode_any w2 b (some ⟨gb, 0, none⟩) c R1.out HGC.out (by unfold Reach; omega))
  go_wp2_with (first | (go_at_call 14; refine (num_call _ _).mono ?_; rintro e w' ⟨rfl, rfl⟩))
  refine HDC.out.mono ?_
  intro e w3 he
  unfold DecPost at he
  rw [HDE.out] at he
  obtain ⟨vs, rfl, hv, hb3, v2, hv2, e2, base, segs, hbase, hown⟩ := he
  have hv1 := hv.sub (new_sub _ _ _)
  obtain ⟨A1', c1', A2', c2', A3', c3', rfl, q0, q1, q2, q3⟩ := Un.opn hv1
  obtain rfl : Value.slice A2' u.decls.length c2' = v2 := by simpa using hv2
  have HOWN := Lib.hid hown; have HBASE := Lib.hid hbase
  have HVL := Lib.hid (alloc_at w3 (.cells #[.string u.pkg, .slice A1' u.imports.length c1', .slice A2' u.decls.length c2', .slice A3' u.bodies.length c3'] 30))
  have HA4 := Lib.hid ((Below.refl w3.heap.size w3).alloc (Nat.le_refl _) (.cells #[.string u.pkg, .slice A1' u.imports.length c1', .slice A2' u.decls.length c2', .slice A3' u.bodies.length c3'] 30))
  have HV := Lib.hid (hv1.sub (Below.sub HA4.out))
  have B4 := Lib.hid ((B2.out.trans (hb3.mono B2.out.size)).trans (HA4.out.mono (Nat.le_trans B2.out.size hb3.size)))
  have C4 := Lib.hid ((C2.out.trans (hb3.mono C2.out.size)).trans (HA4.out.mono (Nat.le_trans C2.out.size hb3.size)))
  have S3 := Lib.hid hb3.size
  have HGB4 := Lib.hid (show (w3.alloc (.cells #[.string u.pkg, .slice A1' u.imports.length c1', .slice A2' u.decls.length c2', .slice A3' u.bodies.length c3'] 30)).heap[gb]? = some (.cells curb 5 (0, 0)) from alloc_old ((hb3.block gb (lt_of_block HGB.out)).trans HGB.out) _)
  have HSM := Lib.hid ((same_any u u _ _ _ (HU.out.sub (Below.sub B4.out)) HV.out).mono fun e w' h => h.bool ((eqUn_iff u u).2 rfl))
  clear hv hv1 hv2 hb3 hown hbase q0 q1 q2 q3
  have y0 := Below.sub C4.out _ _ EU0.out
  have y1 := Below.sub C4.out _ _ EU1.out
  have y2 := Below.sub C4.out _ _ EU2.out
  have y3 := Below.sub C4.out _ _ EU3.out
  go_wp2_with (first | (go_at_call 14; refine (num_call _ _).mono ?_; rintro e w' ⟨rfl, rfl⟩))
  refine HSM.out.mono ?_
  rintro e w5 ⟨rfl, hb5⟩
  have B5 := Lib.hid (B4.out.trans (hb5.mono B4.out.size))
  have C5 := Lib.hid (C4.out.trans (hb5.mono C4.out.size))
  have HVL5 := Lib.hid ((hb5.block _ (lt_of_block HVL.out)).trans HVL.out)
  have HGB5 := Lib.hid ((hb5.block _ (lt_of_block HGB4.out)).trans HGB4.out)
  have HSP := Lib.hid (Spoilt.start HOWN.out HBASE.out (HA4.out.trans (hb5.mono (by simp))))
  clear y0 y1 y2 y3 hb5
  have hl2 := HL2.out
  unfold Reach at hl2
  have HLO := Lib.hid (show gb < w2.heap.size from lt_of_block HGB.out)
  go_wp2_with fail
  go_loopw [7] (fun i wr => ∃ k : Nat, k ≤ u.decls.length ∧ i = .int .i64 k ∧ Spoilt w2.heap.size w3.heap.size A2' u.decls.length w5 wr) (fun i _ => u.decls.length - (intOf i).toNat)
  case atStart => exact ⟨0, Nat.zero_le _, rfl, HSP.out⟩
  case round =>
    obtain ⟨k, hk, rfl, hsp⟩ := hrel
    have HS := Lib.hid hsp
    have x2 : wr.cell? ⟨w3.heap.size, 2, none⟩ = some (.slice A2' u.decls.length c2') := (cell_at (hsp.chg.heap HVL5.out (by omega)) 2).trans rfl
    clear hsp
    by_cases hlt : k < u.decls.length
    · obtain ⟨g, cur, e, rfl, hg1, hg2, hg3, hg4⟩ := HS.out.row (by omega)
      have hlt' : (k : Int) < u.decls.length := by omega
      have f1 : wr.frozen? ⟨g, k * 10 + 1, none⟩ = false := free_at hg3 _
      have c1_ : wr.cell? ⟨g, k * 10 + 1, none⟩ = some (cur[k * 10 + 1]'(by omega)) := by rw [cell_at hg3]; exact Array.getElem?_eq_getElem _
      have HNX := Lib.hid (HS.out.next rfl ⟨hg1, hg2⟩ (k * 10 + 1) (.string ⟨#[63]⟩))
      generalize cur[k * 10 + 1]'(by omega) = old at c1_
      clear hg3 hg4
      go_wp2_with fail
      go_roundw
      case rel => exact ⟨k + 1, by omega, by go_num, HNX.out⟩
      case measure => simp [intOf]; omega
    · have hlt' : ¬ (k : Int) < u.decls.length := by omega
      go_wp2_with fail
      obtain ⟨w6, rfl⟩ : ∃ w6, w6 = wr := ⟨_, rfl⟩
      have HC6 := Lib.hid HS.out.chg
      have HW0 := Lib.hid (show Wiped gb b.length w6 w6 from ⟨Chg.refl _ _, curb, HC6.out.heap HGB5.out (by have := HLO.out; omega), HGBS.out⟩)
      go_loopw [8] (fun i wr => ∃ k : Nat, k ≤ b.length ∧ i = .int .i64 k ∧ Wiped gb b.length w6 wr) (fun i _ => b.length - (intOf i).toNat)
      case atStart => exact ⟨0, Nat.zero_le _, rfl, HW0.out⟩
      case round =>
        obtain ⟨k, hk, rfl, hwp⟩ := hrel
        have HP := Lib.hid hwp; clear hwp
        by_cases hlt : k < b.length
        · obtain ⟨cur, hg3, hg4⟩ := HP.out.row
          have hlt' : (k : Int) < b.length := by omega
          have f1 : wr.frozen? ⟨gb, k, none⟩ = false := free_at hg3 _
          have c1_ : wr.cell? ⟨gb, k, none⟩ = some (cur[k]'(by omega)) := by rw [cell_at hg3]; exact Array.getElem?_eq_getElem _
          have HNX := Lib.hid (HP.out.next k (.int .u8 0))
          generalize cur[k]'(by omega) = old at c1_
          clear hg3 hg4
          go_wp2_with fail
          go_roundw
          case rel => exact ⟨k + 1, by omega, by go_num, HNX.out⟩
          case measure => simp [intOf]; omega
        · have hlt' : ¬ (k : Int) < b.length := by omega
          have B7 := Lib.hid (Below.chg (Below.chg B5.out HC6.out B5.out.size (fun j q => by have := B2.out.size; omega)) HP.out.chg (Nat.le_trans B5.out.size HC6.out.size) (fun j q => by have := B1.out.size; have := HGL.out; omega))
          have C7 := Lib.hid (Below.chg (Below.chg C5.out HC6.out C5.out.size (fun j q => by have := C2.out.size; omega)) HP.out.chg (Nat.le_trans C5.out.size HC6.out.size) (fun j q => by have := C1.out.size; have := HGL.out; omega))
          clear x2
          have y0 := Below.sub C7.out _ _ EU0.out
          have y1 := Below.sub C7.out _ _ EU1.out
          have y2 := Below.sub C7.out _ _ EU2.out
          have y3 := Below.sub C7.out _ _ EU3.out
          go_wp2_with fail
          refine (encode_any _ u _ (HU.out.sub (Below.sub B7.out))).mono ?_
          intro e w8 he
          unfold EncPost at he
          rw [HEQ.out] at he
          obtain ⟨A8, c8, rfl, own8, hb8⟩ := he
          simp only at own8
          have R8 := Lib.hid (rdB_own own8).2
          have hc8 : b.length ≤ c8 := by
            rcases own8.2 with ⟨_, h⟩ | ⟨g, cap, cur, h, h2, h3, h4, _⟩
            · omega
            · injection h with h h7 h8; omega
          have HC8 := Lib.hid hc8
          have B8 := Lib.hid (B7.out.trans (hb8.mono B7.out.size))
          have C8 := Lib.hid (C7.out.trans (hb8.mono C7.out.size)); clear hb8 own8 y0 y1 y2 y3 hc8
          go_wp2_with fail
          refine (decode_any w8 b A8 c8 R8.out HC8.out (by unfold Reach; omega)).mono ?_
          intro e w9 he
          unfold DecPost at he
          rw [HDE.out] at he
          obtain ⟨vs9, rfl, hv9, hb9, _⟩ := he
          have hv91 := hv9.sub (new_sub _ _ _)
          obtain ⟨A1n, c1n, A2n, c2n, A3n, c3n, rfl, q0, q1, q2, q3⟩ := Un.opn hv91
          have HA10 := Lib.hid ((Below.refl w9.heap.size w9).alloc (Nat.le_refl _) (.cells #[.string u.pkg, .slice A1n u.imports.length c1n, .slice A2n u.decls.length c2n, .slice A3n u.bodies.length c3n] 30))
          have HV9 := Lib.hid (hv91.sub (Below.sub HA10.out))
          have B10 := Lib.hid ((B8.out.trans (hb9.mono B8.out.size)).trans (HA10.out.mono (Nat.le_trans B8.out.size hb9.size)))
          have C10 := Lib.hid ((C8.out.trans (hb9.mono C8.out.size)).trans (HA10.out.mono (Nat.le_trans C8.out.size hb9.size)))
          have HSM9 := Lib.hid ((same_any u u _ _ _ (HU.out.sub (Below.sub B10.out)) HV9.out).mono fun e w' h => h.bool ((eqUn_iff u u).2 rfl))
          clear hv9 hv91 hb9 q0 q1 q2 q3
          have y0 := Below.sub C10.out _ _ EU0.out
          have y1 := Below.sub C10.out _ _ EU1.out
          have y2 := Below.sub C10.out _ _ EU2.out
          have y3 := Below.sub C10.out _ _ EU3.out
          go_wp2_with (first | (go_at_call 14; refine (num_call _ _).mono ?_; rintro e w' ⟨rfl, rfl⟩))
          refine HSM9.out.mono ?_
          rintro e w11 ⟨rfl, hb11⟩
          have B11 := Lib.hid (B10.out.trans (hb11.mono B10.out.size))
          clear y0 y1 y2 y3 hb11
          go_wp2_with fail
          refine (awake_any _).mono ?_
          rintro e wz ⟨rfl, hb⟩
          have BZ := Lib.hid (B11.out.trans (hb.mono B11.out.size)); clear hb
          go_wp2_with fail
          exact bodyPost_ret (results_tmp rfl _ _ _) rfl ⟨rfl, BZ.out⟩
end Go.Proofs.Ytghnaaahkbnhlaa
