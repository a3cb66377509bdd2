/-
  The walk of mortiseref7.walk: what a pair of types finds. The conditions: what is handed in reads; the rows that are turned are the call's own; the type that is copied is not too great.
-/
import Derived.Test.YtiecbgclkdlpkaaKWlkA
import Derived.Test.YtiecbgclkdlpkaaKPutR
import Derived.Test.YtiecbgclkdlpkaaHeldU
namespace Go.Proofs.Ytiecbgclkdlpkaa
open Go.RowKit
set_option linter.unusedVariables false
set_option linter.unusedSimpArgs false
attribute [local irreducible] wpStill wpOrd wpT

/-- The rows lie above W0 and say m of names. -/
structure WS (W0 : World) (names : List ByteArray) (b1 b2 : Nat) (w : World) (m : TyM) : Prop where
  below : Below W0.heap.size W0 w
  hi1 : W0.heap.size ≤ b1
  hi2 : W0.heap.size ≤ b2
  st : ∃ hs st, TSt 26 4 names.length b1 b2 w hs st ∧ NSt names hs st m
theorem WS.keep {W0 w w' : World} {names : List ByteArray} {b1 b2 : Nat} {m : TyM} (h : WS W0 names b1 b2 w m) (k : Chg (fun _ => False) w w') : WS W0 names b1 b2 w' m := by
  obtain ⟨hs, st, h1, h2⟩ := h.st
  exact ⟨Below.chg h.below k h.below.size (fun _ q => q.elim), h.hi1, h.hi2, hs, st, h1.keep k, h2⟩
abbrev B12 (b1 b2 : Nat) : Nat → Prop := fun j => j = b1 ∨ j = b2
def WlkP (W0 w : World) (names : List ByteArray) (b1 b2 : Nat) (m' : TyM) (e : Ending) (w' : World) : Prop := e = .returned (.tuple #[]) ∧ WS W0 names b1 b2 w' m' ∧ Chg (B12 b1 b2) w w'
def RWlk (names : List ByteArray) (p : Ty) : Prop := ∀ (W0 w : World) (b1 b2 : Nat) (m : TyM) (vs us : List Value) (A : Option Addr) (c : Nat) (a : Ty), WS W0 names b1 b2 w m → SL W0 1 (strs names) names.length A c → Vals W0 p.d vs → Vals W0 a.d us → a.sz ≤ 1000000 →
  Calls Try.prog 49 #[.slice A names.length c, .slice (some ⟨b1, 0, none⟩) names.length names.length, .slice (some ⟨b2, 0, none⟩) names.length names.length, .agg vs.toArray, .agg us.toArray] w (WlkP W0 w names b1 b2 (infT names p a m))
theorem infL_step (names : List ByteArray) (ps qs : List Ty) (m : TyM) (k : Nat) (h1 : k < ps.length) (h2 : k < qs.length) : infL names (ps.drop k) (qs.drop k) m = infL names (ps.drop (k + 1)) (qs.drop (k + 1)) (infT names ps[k] qs[k] m) := by
  rw [List.drop_eq_getElem_cons h1, List.drop_eq_getElem_cons h2]
  simp only [infL]
theorem infL_stop (names : List ByteArray) (ps qs : List Ty) (m : TyM) (k : Nat) (h : ps.length ≤ k ∨ qs.length ≤ k) : infL names (ps.drop k) (qs.drop k) m = m := by
  refine infL_end names _ _ m (h.imp (fun h => List.drop_eq_nil_of_le h) (fun h => List.drop_eq_nil_of_le h))

set_option maxRecDepth 100000 in
set_option maxHeartbeats 6400000 in
theorem rwlk_var {names : List ByteArray} (p : Ty) (hk : p.kind = 9) (hl : placeN names p.name < names.length) : RWlk names p := by
  intro W0 w b1 b2 m vs us A c a hw hn hv hu hz
  obtain ⟨A3, c3, A4, c4, rfl, q0, q1, q2, q3, q4⟩ := Ty.opn hv
  obtain ⟨B3, d3, B4, d4, rfl, y0, y1, y2, y3, y4⟩ := Ty.opn hu
  have hcw : Chg (fun _ => False) w ((w.alloc (.cells #[.int .i64 p.kind, .string p.pkg, .string p.name, .slice A3 p.args.length c3, .slice A4 p.res.length c4] 26)).alloc (.cells #[.int .i64 a.kind, .string a.pkg, .string a.name, .slice B3 a.args.length d3, .slice B4 a.res.length d4] 26)) := ((Chg.refl _ w).alloc _).alloc _
  have HS2 := Lib.hid (hw.keep hcw)
  have HC2 := Lib.hid (show Chg (B12 b1 b2) w ((w.alloc (.cells #[.int .i64 p.kind, .string p.pkg, .string p.name, .slice A3 p.args.length c3, .slice A4 p.res.length c4] 26)).alloc (.cells #[.int .i64 a.kind, .string a.pkg, .string a.name, .slice B3 a.args.length d3, .slice B4 a.res.length d4] 26)) from hcw.mono (fun _ _ q => q.elim))
  have HLW := Lib.hid hw.below.size
  have hnl := hn.2.2.1
  unfold Reach at hnl
  have HZ := Lib.hid hz; have HN := Lib.hid hn; have HU := Lib.hid hu
  have HP2 := Lib.hid (show ((w.alloc (.cells #[.int .i64 p.kind, .string p.pkg, .string p.name, .slice A3 p.args.length c3, .slice A4 p.res.length c4] 26)).alloc (.cells #[.int .i64 a.kind, .string a.pkg, .string a.name, .slice B3 a.args.length d3, .slice B4 a.res.length d4] 26)).heap[w.heap.size]? = some (.cells #[.int .i64 p.kind, .string p.pkg, .string p.name, .slice A3 p.args.length c3, .slice A4 p.res.length c4] 26 (0, 0)) from alloc_old (alloc_at w _) _)
  have HA2 := Lib.hid (show ((w.alloc (.cells #[.int .i64 p.kind, .string p.pkg, .string p.name, .slice A3 p.args.length c3, .slice A4 p.res.length c4] 26)).alloc (.cells #[.int .i64 a.kind, .string a.pkg, .string a.name, .slice B3 a.args.length d3, .slice B4 a.res.length d4] 26)).heap[w.heap.size + 1]? = some (.cells #[.int .i64 a.kind, .string a.pkg, .string a.name, .slice B3 a.args.length d3, .slice B4 a.res.length d4] 26 (0, 0)) from by have := alloc_at (w.alloc (.cells #[.int .i64 p.kind, .string p.pkg, .string p.name, .slice A3 p.args.length c3, .slice A4 p.res.length c4] 26)) (.cells #[.int .i64 a.kind, .string a.pkg, .string a.name, .slice B3 a.args.length d3, .slice B4 a.res.length d4] 26); rwa [World.size_alloc] at this)
  have hb : b1 < w.heap.size ∧ b2 < w.heap.size := by
    obtain ⟨hs, st, h1, _⟩ := hw.st
    exact h1.lt
  obtain ⟨hb1, hb2⟩ := hb
  have HIX := Lib.hid (place_any ((w.alloc (.cells #[.int .i64 p.kind, .string p.pkg, .string p.name, .slice A3 p.args.length c3, .slice A4 p.res.length c4] 26)).alloc (.cells #[.int .i64 a.kind, .string a.pkg, .string a.name, .slice B3 a.args.length d3, .slice B4 a.res.length d4] 26)) names A c (hn.sub (Below.sub HS2.out.below)) p.name)
  have HPI := Lib.hid (show placeI names p.name = (placeN names p.name : Int) by unfold placeI; rw [if_pos hl])
  rw [HPI.out] at HIX
  have hkb : (p.kind == 9) = true := by simp [hk]
  obtain ⟨hs, st, ht, hm⟩ := hw.st
  have HLO := Lib.hid (And.intro hw.hi1 hw.hi2)
  have HBW := Lib.hid hw.below
  have HM := Lib.hid hm; have HT := Lib.hid ht
  have HIT := Lib.hid (show infT names p a m = if (m p.name).isSome = true then m else setT m p.name a by rw [infT_eq, if_pos (by rw [decide_eq_true hk, decide_eq_true hl]; rfl)])
  have HMP := Lib.hid (hm p.name hl)
  have HMN := Lib.hid (hm.next hl a)
  obtain ⟨k, hkk⟩ : ∃ k, k = placeN names p.name := ⟨_, rfl⟩
  rw [← hkk] at HIX HMP hl HMN
  have HKK := Lib.hid hkk
  clear HPI hkk hk
  have hlk : (k : Int) < names.length := by omega
  have hh := (ht.hasAt hl).1
  have hf := (ht.hasAt hl).2
  clear q0 q1 q2 q3 q4 y0 y1 y2 y3 y4 hw hn hv hu hz hcw ht hm HC2
  have HC2 := Lib.hid (show Chg (B12 b1 b2) w ((w.alloc (.cells #[.int .i64 p.kind, .string p.pkg, .string p.name, .slice A3 p.args.length c3, .slice A4 p.res.length c4] 26)).alloc (.cells #[.int .i64 a.kind, .string a.pkg, .string a.name, .slice B3 a.args.length d3, .slice B4 a.res.length d4] 26)) from ((Chg.refl _ w).alloc _).alloc _)
  cases z : hs k with
  | true =>
    have HE := Lib.hid (show infT names p a m = m by rw [HIT.out, HMP.out, z]; rfl)
    rw [z] at hh
    clear z
    go_enter Try.func49, Try.ntmps49
    go_wp2_with fail
    refine HIX.out.mono ?_
    rintro e w' ⟨rfl, rfl⟩
    go_wp2_with fail
    go_end0
    exact ⟨rfl, by rw [HE.out]; exact HS2.out, HC2.out⟩
  | false =>
    have HE := Lib.hid (show infT names p a m = setT m p.name a by rw [HIT.out, HMP.out, z]; rfl)
    rw [z] at hh
    clear z
    have hc3 : Chg (fun _ => False) (w.setCell ⟨b2, k, none⟩ (.bool true)) (((w.setCell ⟨b2, k, none⟩ (.bool true)).alloc (.cells #[.int .i64 p.kind, .string p.pkg, .string p.name, .slice A3 p.args.length c3, .slice A4 p.res.length c4] 26)).alloc (.cells #[.int .i64 a.kind, .string a.pkg, .string a.name, .slice B3 a.args.length d3, .slice B4 a.res.length d4] 26)) := ((Chg.refl _ _).alloc _).alloc _
    have HT3 := Lib.hid ((HT.out.setHas k true).keep hc3)
    have HC3 := Lib.hid (show Chg (B12 b1 b2) w (((w.setCell ⟨b2, k, none⟩ (.bool true)).alloc (.cells #[.int .i64 p.kind, .string p.pkg, .string p.name, .slice A3 p.args.length c3, .slice A4 p.res.length c4] 26)).alloc (.cells #[.int .i64 a.kind, .string a.pkg, .string a.name, .slice B3 a.args.length d3, .slice B4 a.res.length d4] 26)) from (((Chg.refl (B12 b1 b2) w).setCell (p := ⟨b2, k, none⟩) (fun _ => .inr rfl) (.bool true)).alloc _).alloc _)
    have HB3 := Lib.hid (show Below W0.heap.size W0 (((w.setCell ⟨b2, k, none⟩ (.bool true)).alloc (.cells #[.int .i64 p.kind, .string p.pkg, .string p.name, .slice A3 p.args.length c3, .slice A4 p.res.length c4] 26)).alloc (.cells #[.int .i64 a.kind, .string a.pkg, .string a.name, .slice B3 a.args.length d3, .slice B4 a.res.length d4] 26)) from Below.chg HBW.out HC3.out HBW.out.size (fun i q => by have := HLO.out; omega))
    clear hc3
    go_enter Try.func49, Try.ntmps49
    go_wp2_with fail
    refine HIX.out.mono ?_
    rintro e w' ⟨rfl, rfl⟩
    go_wp2_with fail
    clear hh hf
    refine (rcopC a HZ.out (((w.setCell ⟨b2, k, none⟩ (.bool true)).alloc (.cells #[.int .i64 p.kind, .string p.pkg, .string p.name, .slice A3 p.args.length c3, .slice A4 p.res.length c4] 26)).alloc (.cells #[.int .i64 a.kind, .string a.pkg, .string a.name, .slice B3 a.args.length d3, .slice B4 a.res.length d4] 26)) _ (HU.out.sub (Below.sub HB3.out))).mono ?_
    rintro e w2 ⟨vs, rfl, hv2, hb⟩
    have HV2 := Lib.hid hv2
    obtain ⟨E3, f3, E4, f4, rfl, _⟩ := Ty.opn hv2
    have hcb : Chg (fun _ => False) (((w.setCell ⟨b2, k, none⟩ (.bool true)).alloc (.cells #[.int .i64 p.kind, .string p.pkg, .string p.name, .slice A3 p.args.length c3, .slice A4 p.res.length c4] 26)).alloc (.cells #[.int .i64 a.kind, .string a.pkg, .string a.name, .slice B3 a.args.length d3, .slice B4 a.res.length d4] 26)) w2 := below_none hb
    have ht2 := HT3.out.keep hcb
    have HT2 := Lib.hid ht2
    have HC4 := Lib.hid (HC3.out.trans hcb (fun _ _ q => q.elim))
    have HB4 := Lib.hid (HB3.out.trans (hb.mono HB3.out.size))
    obtain ⟨G3, g3, G4, g4, _, ⟨x0, x1, x2, x3, x4⟩, hfz⟩ := ht2.at hl
    have z0 : w2.frozen? ⟨b1, k * 5, none⟩ = false := hfz 0 (by omega)
    have z1 := hfz 1 (by omega); have z2 := hfz 2 (by omega); have z3 := hfz 3 (by omega); have z4 := hfz 4 (by omega)
    have hb12 := ht2.lt.1
    have HV3 := Lib.hid (show Vals (HidW (two b1 b2) w2) a.d [.int .i64 a.kind, .string a.pkg, .string a.name, .slice E3 a.args.length f3, .slice E4 a.res.length f4] from HV2.out.sub fun ad u q => by
      obtain ⟨q1, q2⟩ := (new_cell _ _ _ _ _).1 q
      refine (hid_cell _ _ _ _).2 ⟨?_, q2⟩
      cases hc : two b1 b2 ad.block with
      | false => rfl
      | true => exact absurd (.inl (by rcases two_iff.1 hc with e | e <;> rw [e] <;> simp <;> omega)) q1)
    have HT5 := Lib.hid (HT2.out.setTy hl HV3.out)
    have HC5 := Lib.hid (HC4.out.trans (set5_chg w2 b1 (k * 5) (.int .i64 a.kind) (.string a.pkg) (.string a.name) (.slice E3 a.args.length f3) (.slice E4 a.res.length f4)) (fun _ _ q => .inl q))
    have HB5 := Lib.hid (Below.chg HBW.out HC5.out HBW.out.size (fun i q => by have := HLO.out; omega))
    clear hv2 hb hcb ht2 hfz
    go_wp2_with fail
    go_end0
    exact ⟨rfl, by rw [HE.out]; exact ⟨HB5.out, HLO.out.1, HLO.out.2, _, _, HT5.out, HMN.out⟩, HC5.out⟩
set_option maxRecDepth 100000 in
set_option maxHeartbeats 6400000 in
theorem rwlk_none {names : List ByteArray} (p : Ty) (W0 w : World) (b1 b2 : Nat) (m : TyM) (vs us : List Value) (A : Option Addr) (c : Nat) (a : Ty) (h1 : ¬ (p.kind = 9 ∧ placeN names p.name < names.length)) (h2 : ¬ (p.kind = a.kind ∧ (p.kind = 6 ∨ p.kind = 7))) (hw : WS W0 names b1 b2 w m) (hn : SL W0 1 (strs names) names.length A c) (hv : Vals W0 p.d vs) (hu : Vals W0 a.d us) (hz : a.sz ≤ 1000000) :
    Calls Try.prog 49 #[.slice A names.length c, .slice (some ⟨b1, 0, none⟩) names.length names.length, .slice (some ⟨b2, 0, none⟩) names.length names.length, .agg vs.toArray, .agg us.toArray] w (WlkP W0 w names b1 b2 (infT names p a m)) := by
  obtain ⟨A3, c3, A4, c4, rfl, q0, q1, q2, q3, q4⟩ := Ty.opn hv
  obtain ⟨B3, d3, B4, d4, rfl, y0, y1, y2, y3, y4⟩ := Ty.opn hu
  have hcw : Chg (fun _ => False) w ((w.alloc (.cells #[.int .i64 p.kind, .string p.pkg, .string p.name, .slice A3 p.args.length c3, .slice A4 p.res.length c4] 26)).alloc (.cells #[.int .i64 a.kind, .string a.pkg, .string a.name, .slice B3 a.args.length d3, .slice B4 a.res.length d4] 26)) := ((Chg.refl _ w).alloc _).alloc _
  have HS2 := Lib.hid (hw.keep hcw)
  have HC2 := Lib.hid (show Chg (B12 b1 b2) w ((w.alloc (.cells #[.int .i64 p.kind, .string p.pkg, .string p.name, .slice A3 p.args.length c3, .slice A4 p.res.length c4] 26)).alloc (.cells #[.int .i64 a.kind, .string a.pkg, .string a.name, .slice B3 a.args.length d3, .slice B4 a.res.length d4] 26)) from hcw.mono (fun _ _ q => q.elim))
  have HLW := Lib.hid hw.below.size
  have hnl := hn.2.2.1
  unfold Reach at hnl
  have HZ := Lib.hid hz; have HN := Lib.hid hn; have HU := Lib.hid hu
  have HP2 := Lib.hid (show ((w.alloc (.cells #[.int .i64 p.kind, .string p.pkg, .string p.name, .slice A3 p.args.length c3, .slice A4 p.res.length c4] 26)).alloc (.cells #[.int .i64 a.kind, .string a.pkg, .string a.name, .slice B3 a.args.length d3, .slice B4 a.res.length d4] 26)).heap[w.heap.size]? = some (.cells #[.int .i64 p.kind, .string p.pkg, .string p.name, .slice A3 p.args.length c3, .slice A4 p.res.length c4] 26 (0, 0)) from alloc_old (alloc_at w _) _)
  have HA2 := Lib.hid (show ((w.alloc (.cells #[.int .i64 p.kind, .string p.pkg, .string p.name, .slice A3 p.args.length c3, .slice A4 p.res.length c4] 26)).alloc (.cells #[.int .i64 a.kind, .string a.pkg, .string a.name, .slice B3 a.args.length d3, .slice B4 a.res.length d4] 26)).heap[w.heap.size + 1]? = some (.cells #[.int .i64 a.kind, .string a.pkg, .string a.name, .slice B3 a.args.length d3, .slice B4 a.res.length d4] 26 (0, 0)) from by have := alloc_at (w.alloc (.cells #[.int .i64 p.kind, .string p.pkg, .string p.name, .slice A3 p.args.length c3, .slice A4 p.res.length c4] 26)) (.cells #[.int .i64 a.kind, .string a.pkg, .string a.name, .slice B3 a.args.length d3, .slice B4 a.res.length d4] 26); rwa [World.size_alloc] at this)
  have hb : b1 < w.heap.size ∧ b2 < w.heap.size := by
    obtain ⟨hs, st, h1, _⟩ := hw.st
    exact h1.lt
  obtain ⟨hb1, hb2⟩ := hb
  have HIX := Lib.hid (place_any ((w.alloc (.cells #[.int .i64 p.kind, .string p.pkg, .string p.name, .slice A3 p.args.length c3, .slice A4 p.res.length c4] 26)).alloc (.cells #[.int .i64 a.kind, .string a.pkg, .string a.name, .slice B3 a.args.length d3, .slice B4 a.res.length d4] 26)) names A c (hn.sub (Below.sub HS2.out.below)) p.name)
  have HE := Lib.hid (show infT names p a m = m by
    rw [infT_eq, if_neg (by rw [Bool.and_eq_true, decide_eq_true_eq, decide_eq_true_eq]; exact h1), if_neg (by rw [Bool.and_eq_true, Bool.or_eq_true, decide_eq_true_eq, decide_eq_true_eq, decide_eq_true_eq]; exact h2)])
  clear q0 q1 q2 q3 q4 y0 y1 y2 y3 y4 hw hn hv hu hz hcw
  have kb : ∃ b0 b6 b7 : Bool, (p.kind != a.kind) = b0 ∧ (p.kind != 6) = b6 ∧ (p.kind != 7) = b7 ∧ (b0 = true ∨ (b0 = false ∧ b6 = true ∧ b7 = true)) := ⟨_, _, _, rfl, rfl, rfl, by
    by_cases e : p.kind = a.kind
    · refine .inr ⟨by simp [e], ?_, ?_⟩ <;> simp only [bne_iff_ne, ne_eq] <;> intro q <;> exact h2 ⟨e, by omega⟩
    · exact .inl (by simp [e])⟩
  obtain ⟨b0, b6, b7, kb0, kb6, kb7, hb⟩ := kb
  by_cases h9 : p.kind = 9
  · have hkb : (p.kind == 9) = true := by simp [h9]
    have HPI := Lib.hid (show placeI names p.name = -1 by unfold placeI; rw [if_neg (fun q => h1 ⟨h9, q⟩)])
    rw [HPI.out] at HIX
    clear h9 h1 h2
    rcases hb with rfl | ⟨rfl, rfl, rfl⟩
    all_goals
      go_enter Try.func49, Try.ntmps49
      go_wp2_with fail
      refine HIX.out.mono ?_
      rintro e w' ⟨rfl, rfl⟩
      go_wp2_with fail
      go_end0
      exact ⟨rfl, by rw [HE.out]; exact HS2.out, HC2.out⟩
  · have hkb : (p.kind == 9) = false := by simp [h9]
    clear h9 h1 h2
    rcases hb with rfl | ⟨rfl, rfl, rfl⟩
    all_goals
      go_enter Try.func49, Try.ntmps49
      go_wp2_with fail
      go_end0
      exact ⟨rfl, by rw [HE.out]; exact HS2.out, HC2.out⟩
set_option maxRecDepth 100000 in
set_option maxHeartbeats 6400000 in
theorem rwlk_six {names : List ByteArray} (p : Ty) (W0 w : World) (b1 b2 : Nat) (m : TyM) (vs us : List Value) (A : Option Addr) (c : Nat) (a : Ty) (h6 : p.kind = 6) (hpa : p.kind = a.kind) (o_args : ∀ x ∈ p.args, RWlk names x) (o_res : ∀ x ∈ p.res, RWlk names x) (hw : WS W0 names b1 b2 w m) (hn : SL W0 1 (strs names) names.length A c) (hv : Vals W0 p.d vs) (hu : Vals W0 a.d us) (hz : a.sz ≤ 1000000) :
    Calls Try.prog 49 #[.slice A names.length c, .slice (some ⟨b1, 0, none⟩) names.length names.length, .slice (some ⟨b2, 0, none⟩) names.length names.length, .agg vs.toArray, .agg us.toArray] w (WlkP W0 w names b1 b2 (infT names p a m)) := by
  obtain ⟨A3, c3, A4, c4, rfl, q0, q1, q2, q3, q4⟩ := Ty.opn hv
  obtain ⟨B3, d3, B4, d4, rfl, y0, y1, y2, y3, y4⟩ := Ty.opn hu
  have hcw : Chg (fun _ => False) w ((w.alloc (.cells #[.int .i64 p.kind, .string p.pkg, .string p.name, .slice A3 p.args.length c3, .slice A4 p.res.length c4] 26)).alloc (.cells #[.int .i64 a.kind, .string a.pkg, .string a.name, .slice B3 a.args.length d3, .slice B4 a.res.length d4] 26)) := ((Chg.refl _ w).alloc _).alloc _
  have HS2 := Lib.hid (hw.keep hcw)
  have HC2 := Lib.hid (show Chg (B12 b1 b2) w ((w.alloc (.cells #[.int .i64 p.kind, .string p.pkg, .string p.name, .slice A3 p.args.length c3, .slice A4 p.res.length c4] 26)).alloc (.cells #[.int .i64 a.kind, .string a.pkg, .string a.name, .slice B3 a.args.length d3, .slice B4 a.res.length d4] 26)) from hcw.mono (fun _ _ q => q.elim))
  have HLW := Lib.hid hw.below.size
  have hnl := hn.2.2.1
  unfold Reach at hnl
  have HZ := Lib.hid hz; have HN := Lib.hid hn; have HU := Lib.hid hu
  have HP2 := Lib.hid (show ((w.alloc (.cells #[.int .i64 p.kind, .string p.pkg, .string p.name, .slice A3 p.args.length c3, .slice A4 p.res.length c4] 26)).alloc (.cells #[.int .i64 a.kind, .string a.pkg, .string a.name, .slice B3 a.args.length d3, .slice B4 a.res.length d4] 26)).heap[w.heap.size]? = some (.cells #[.int .i64 p.kind, .string p.pkg, .string p.name, .slice A3 p.args.length c3, .slice A4 p.res.length c4] 26 (0, 0)) from alloc_old (alloc_at w _) _)
  have HA2 := Lib.hid (show ((w.alloc (.cells #[.int .i64 p.kind, .string p.pkg, .string p.name, .slice A3 p.args.length c3, .slice A4 p.res.length c4] 26)).alloc (.cells #[.int .i64 a.kind, .string a.pkg, .string a.name, .slice B3 a.args.length d3, .slice B4 a.res.length d4] 26)).heap[w.heap.size + 1]? = some (.cells #[.int .i64 a.kind, .string a.pkg, .string a.name, .slice B3 a.args.length d3, .slice B4 a.res.length d4] 26 (0, 0)) from by have := alloc_at (w.alloc (.cells #[.int .i64 p.kind, .string p.pkg, .string p.name, .slice A3 p.args.length c3, .slice A4 p.res.length c4] 26)) (.cells #[.int .i64 a.kind, .string a.pkg, .string a.name, .slice B3 a.args.length d3, .slice B4 a.res.length d4] 26); rwa [World.size_alloc] at this)
  have hb : b1 < w.heap.size ∧ b2 < w.heap.size := by
    obtain ⟨hs, st, h1, _⟩ := hw.st
    exact h1.lt
  obtain ⟨hb1, hb2⟩ := hb
  have HE := Lib.hid (show infT names p a m = infL names p.res a.res (infL names p.args a.args m) by
    rw [infT_eq, if_neg (by rw [h6]; simp), if_pos (by rw [decide_eq_true hpa, h6]; rfl)])
  have hkb : (p.kind == 9) = false := by simp [h6]
  have kb0 : (p.kind != a.kind) = false := by simp [hpa]
  have kb6 : (p.kind != 6) = false := by simp [h6]
  have kb7 : (p.kind != 7) = true := by simp [h6]
  have OA := Lib.hid o_args; have OR := Lib.hid o_res
  have P3 := Lib.hid q3; have P4 := Lib.hid q4; have R3 := Lib.hid y3; have R4 := Lib.hid y4
  have HZA := Lib.hid (show ∀ x ∈ a.args, x.sz ≤ 1000000 from fun x hx => by have := Ty.mem_sz hx; have := Ty.sz_eq a; omega)
  have HZR := Lib.hid (show ∀ x ∈ a.res, x.sz ≤ 1000000 from fun x hx => by have := Ty.mem_sz hx; have := Ty.sz_eq a; omega)
  have hl3 := q3.2.2.1; have hl4 := q4.2.2.1; have hm3 := y3.2.2.1; have hm4 := y4.2.2.1
  unfold Reach at hl3 hl4 hm3 hm4
  clear q0 q1 q2 q3 q4 y0 y1 y2 y3 y4 hw hn hv hu hz hcw o_args o_res h6 hpa
  go_enter Try.func49, Try.ntmps49
  go_wp2_with fail
  obtain ⟨wz, hwz⟩ : ∃ x, x = ((w.alloc (.cells #[.int .i64 p.kind, .string p.pkg, .string p.name, .slice A3 p.args.length c3, .slice A4 p.res.length c4] 26)).alloc (.cells #[.int .i64 a.kind, .string a.pkg, .string a.name, .slice B3 a.args.length d3, .slice B4 a.res.length d4] 26)) := ⟨_, rfl⟩
  have hs2 := HS2.out; have hc2 := HC2.out; have hp2 := HP2.out; have ha2 := HA2.out
  rw [← hwz] at hs2 hc2 hp2 ha2
  rw [← hwz]
  have hsz : w.heap.size + 2 ≤ wz.heap.size := by rw [hwz]; simp
  clear hwz HS2 HC2 HP2 HA2
  have HS2 := Lib.hid hs2; have HC2 := Lib.hid hc2; have HP2 := Lib.hid hp2; have HA2 := Lib.hid ha2
  clear hs2 hc2 hp2 ha2
  go_loopw [11] (fun i wr => ∃ (k : Nat) (m' : TyM), k ≤ p.args.length ∧ k ≤ a.args.length ∧ i = .int .i64 k ∧ WS W0 names b1 b2 wr m' ∧ Chg (B12 b1 b2) wz wr ∧ infL names (p.args.drop k) (a.args.drop k) m' = infL names p.args a.args m) (fun i _ => p.args.length - (intOf i).toNat)
  case atStart => exact ⟨0, _, Nat.zero_le _, Nat.zero_le _, rfl, HS2.out, Chg.refl _ _, rfl⟩
  case round =>
    obtain ⟨k, m', hk, hk', rfl, hS, hC, hL⟩ := hrel
    have HS := Lib.hid hS; have HC := Lib.hid hC; have HL := Lib.hid hL
    clear hS hC hL
    have k3_ : wr.cell? ⟨w.heap.size, 3, none⟩ = some (.slice A3 p.args.length c3) := (cell_at (HC.out.heap HP2.out (by show ¬ (_ = _ ∨ _ = _); omega)) 3).trans rfl
    have j3_ : wr.cell? ⟨w.heap.size + 1, 3, none⟩ = some (.slice B3 a.args.length d3) := (cell_at (HC.out.heap HA2.out (by show ¬ (_ = _ ∨ _ = _); omega)) 3).trans rfl
    have hst : k < p.args.length ∧ k < a.args.length ∨ (¬ k < p.args.length ∨ k < p.args.length ∧ ¬ k < a.args.length) := by omega
    rcases hst with ⟨hlt, hlt2⟩ | hend
    · have hlt1_ : (k : Int) < p.args.length := by omega
      have hlt2_ : (k : Int) < a.args.length := by omega
      obtain ⟨bp, op, hAp, E3, f3, E4, f4, e0, e1, e2, e3, e4, z0, z1, z2, z3, z4⟩ := Ty.at P3.out.2.2.2 k hlt
      obtain ⟨bq, oq, hAq, G3, g3, G4, g4, d0, d1, d2, d3_, d4_, s0, s1, s2, s3, s4⟩ := Ty.at R3.out.2.2.2 k hlt2
      subst hAp hAq
      have HST := Lib.hid (infL_step names p.args a.args m' k hlt hlt2)
      have HVP := Lib.hid (Ty.shut (w := W0) (t := p.args[k]) z0 z1 z2 z3 z4)
      have HVQ := Lib.hid (Ty.shut (w := W0) (t := a.args[k]) s0 s1 s2 s3 s4)
      have HKP := Lib.hid (List.getElem_mem hlt); have HKQ := Lib.hid (List.getElem_mem hlt2)
      have hlo := HS.out.hi1; have hlo2 := HS.out.hi2; have hlw := HLW.out
      have hp0 : bp < W0.heap.size := World.block_lt_of_cell? W0 (a := ⟨bp, op + k * 5, none⟩) e0
      have hq0 : bq < W0.heap.size := World.block_lt_of_cell? W0 (a := ⟨bq, oq + k * 5, none⟩) d0
      have HNP := Lib.hid (show ¬ B12 b1 b2 bp by show ¬ (_ = _ ∨ _ = _); omega); have HNQ := Lib.hid (show ¬ B12 b1 b2 bq by show ¬ (_ = _ ∨ _ = _); omega)
      have HN1 := Lib.hid (show ¬ B12 b1 b2 w.heap.size by show ¬ (_ = _ ∨ _ = _); omega); have HN2 := Lib.hid (show ¬ B12 b1 b2 (w.heap.size + 1) by show ¬ (_ = _ ∨ _ = _); omega)
      have hsub := Below.sub HS.out.below
      have F0 := hsub _ _ e0; have F1 := hsub _ _ e1; have F2 := hsub _ _ e2; have F3 := hsub _ _ e3; have F4 := hsub _ _ e4
      have J0 := hsub _ _ d0; have J1 := hsub _ _ d1; have J2 := hsub _ _ d2; have J3 := hsub _ _ d3_; have J4 := hsub _ _ d4_
      clear hsub e0 e1 e2 e3 e4 z0 z1 z2 z3 z4 d0 d1 d2 d3_ d4_ s0 s1 s2 s3 s4 hp0 hq0 hlo hlo2 hlw
      go_wp2_with fail
      refine wp_region_otN (fun wS => Chg (B12 b1 b2) wr wS) (.get 0 (.get 1 (.get 2 (.get 3 (.get 4 (.get 5 (.get 6 (.get 7 (.get 8 (.get 9 (.get 10 (.get 11 (.get 12 (.one 13 .done)))))))))))))) (by kernel_rfl) (by kernel_rfl) (Chg.refl _ _).drew ?_
      apply wpT_get rfl
      · go_simp
      · intro wS hS
        go_simp
        try rfl
      intro K hK
      go_simp
      refine hK _ ?_
      clear hK K
      apply wpT_get rfl
      · go_simp
      · intro wS hS
        go_simp
        try rfl
      intro K hK
      go_simp
      refine hK _ ?_
      clear hK K
      apply wpT_get rfl
      · go_simp
      · intro wS hS
        go_simp
        try rfl
      intro K hK
      go_simp
      refine hK _ ?_
      clear hK K
      apply wpT_get rfl
      · go_simp
      · intro wS hS
        go_simp
        try rfl
      intro K hK
      go_simp
      refine hK _ ?_
      clear hK K
      apply wpT_get rfl
      · go_simp
      · intro wS hS
        have x0 := hS.cell k3_ HN1.out
        go_simp
        try rfl
      intro K hK
      go_simp
      refine hK _ ?_
      clear hK K
      apply wpT_get rfl
      · go_simp
      · intro wS hS
        go_simp
        try rfl
      intro K hK
      go_simp
      refine hK _ ?_
      clear hK K
      apply wpT_get rfl
      · go_simp
      · intro wS hS
        go_simp
        try rfl
      intro K hK
      go_simp
      refine hK _ ?_
      clear hK K
      apply wpT_get rfl
      · go_simp
      · intro wS hS
        have x0 := hS.cell F0 HNP.out
        have x1 := hS.cell F1 HNP.out
        have x2 := hS.cell F2 HNP.out
        have x3 := hS.cell F3 HNP.out
        have x4 := hS.cell F4 HNP.out
        go_simp
        try rfl
      intro K hK
      go_simp
      refine hK _ ?_
      clear hK K
      apply wpT_get rfl
      · go_simp
      · intro wS hS
        go_simp
        try rfl
      intro K hK
      go_simp
      refine hK _ ?_
      clear hK K
      apply wpT_get rfl
      · go_simp
      · intro wS hS
        have x0 := hS.cell j3_ HN2.out
        go_simp
        try rfl
      intro K hK
      go_simp
      refine hK _ ?_
      clear hK K
      apply wpT_get rfl
      · go_simp
      · intro wS hS
        go_simp
        try rfl
      intro K hK
      go_simp
      refine hK _ ?_
      clear hK K
      apply wpT_get rfl
      · go_simp
      · intro wS hS
        go_simp
        try rfl
      intro K hK
      go_simp
      refine hK _ ?_
      clear hK K
      apply wpT_get rfl
      · go_simp
      · intro wS hS
        have x0 := hS.cell J0 HNQ.out
        have x1 := hS.cell J1 HNQ.out
        have x2 := hS.cell J2 HNQ.out
        have x3 := hS.cell J3 HNQ.out
        have x4 := hS.cell J4 HNQ.out
        go_simp
        try rfl
      intro K hK
      go_simp
      refine hK _ ?_
      clear hK K
      refine wpT_one rfl (fun K hK => ?_)
      go_wp2_with fail
      refine (OA.out _ HKP.out W0 wr.drew b1 b2 m' _ _ _ _ _ (HS.out.keep (Chg.refl _ _).drew) HN.out HVP.out HVQ.out (HZA.out _ HKQ.out)).mono ?_
      rintro e w1 ⟨rfl, hs1, hc1⟩
      have HS1 := Lib.hid hs1; have HC1 := Lib.hid ((Chg.refl (B12 b1 b2) wr).drew.trans hc1 (fun _ _ e => e)); have HCZ := Lib.hid (HC.out.trans HC1.out (fun _ _ e => e))
      clear hs1 hc1
      go_wp2_with fail
      refine hK _ _ HC1.out ?_
      clear hK K
      refine wpT_doneN ?_
      go_wp2_with fail
      go_roundw
      case rel => exact ⟨k + 1, _, by omega, by omega, by go_num, HS1.out, HCZ.out, by rw [← HST.out]; exact HL.out⟩
      case measure => simp [intOf]; omega
    · have HST := Lib.hid (show m' = infL names p.args a.args m by rw [← HL.out]; exact (infL_stop names _ _ _ _ (by omega)).symm)
      have hend' : ¬ (k : Int) < p.args.length ∨ ((k : Int) < p.args.length ∧ ¬ (k : Int) < a.args.length) := by omega
      clear hend hk hk'
      rcases hend' with hen | ⟨hen, hen2⟩
      all_goals
        have HSY := Lib.hid HS.out; have HCY := Lib.hid HC.out
        rw [HST.out] at HSY
        obtain ⟨wy, rfl⟩ : ∃ x, x = wr := ⟨_, rfl⟩
        go_wp2_with fail
        clear HST HL HS HC k3_ j3_
        go_loopw [12] (fun i wr => ∃ (k : Nat) (m' : TyM), k ≤ p.res.length ∧ k ≤ a.res.length ∧ i = .int .i64 k ∧ WS W0 names b1 b2 wr m' ∧ Chg (B12 b1 b2) wz wr ∧ infL names (p.res.drop k) (a.res.drop k) m' = infL names p.res a.res (infL names p.args a.args m)) (fun i _ => p.res.length - (intOf i).toNat)
        case atStart => exact ⟨0, _, Nat.zero_le _, Nat.zero_le _, rfl, HSY.out, HCY.out, rfl⟩
        case round =>
          obtain ⟨k, m', hk, hk', rfl, hS, hC, hL⟩ := hrel
          have HS := Lib.hid hS; have HC := Lib.hid hC; have HL := Lib.hid hL
          clear hS hC hL
          have k3_ : wr.cell? ⟨w.heap.size, 4, none⟩ = some (.slice A4 p.res.length c4) := (cell_at (HC.out.heap HP2.out (by show ¬ (_ = _ ∨ _ = _); omega)) 4).trans rfl
          have j3_ : wr.cell? ⟨w.heap.size + 1, 4, none⟩ = some (.slice B4 a.res.length d4) := (cell_at (HC.out.heap HA2.out (by show ¬ (_ = _ ∨ _ = _); omega)) 4).trans rfl
          have hst : k < p.res.length ∧ k < a.res.length ∨ (¬ k < p.res.length ∨ k < p.res.length ∧ ¬ k < a.res.length) := by omega
          rcases hst with ⟨hlt, hlt2⟩ | hend
          · have hlt1_ : (k : Int) < p.res.length := by omega
            have hlt2_ : (k : Int) < a.res.length := by omega
            obtain ⟨bp, op, hAp, E3, f3, E4, f4, e0, e1, e2, e3, e4, z0, z1, z2, z3, z4⟩ := Ty.at P4.out.2.2.2 k hlt
            obtain ⟨bq, oq, hAq, G3, g3, G4, g4, d0, d1, d2, d3_, d4_, s0, s1, s2, s3, s4⟩ := Ty.at R4.out.2.2.2 k hlt2
            subst hAp hAq
            have HST := Lib.hid (infL_step names p.res a.res m' k hlt hlt2)
            have HVP := Lib.hid (Ty.shut (w := W0) (t := p.res[k]) z0 z1 z2 z3 z4)
            have HVQ := Lib.hid (Ty.shut (w := W0) (t := a.res[k]) s0 s1 s2 s3 s4)
            have HKP := Lib.hid (List.getElem_mem hlt); have HKQ := Lib.hid (List.getElem_mem hlt2)
            have hlo := HS.out.hi1; have hlo2 := HS.out.hi2; have hlw := HLW.out
            have hp0 : bp < W0.heap.size := World.block_lt_of_cell? W0 (a := ⟨bp, op + k * 5, none⟩) e0
            have hq0 : bq < W0.heap.size := World.block_lt_of_cell? W0 (a := ⟨bq, oq + k * 5, none⟩) d0
            have HNP := Lib.hid (show ¬ B12 b1 b2 bp by show ¬ (_ = _ ∨ _ = _); omega); have HNQ := Lib.hid (show ¬ B12 b1 b2 bq by show ¬ (_ = _ ∨ _ = _); omega)
            have HN1 := Lib.hid (show ¬ B12 b1 b2 w.heap.size by show ¬ (_ = _ ∨ _ = _); omega); have HN2 := Lib.hid (show ¬ B12 b1 b2 (w.heap.size + 1) by show ¬ (_ = _ ∨ _ = _); omega)
            have hsub := Below.sub HS.out.below
            have F0 := hsub _ _ e0; have F1 := hsub _ _ e1; have F2 := hsub _ _ e2; have F3 := hsub _ _ e3; have F4 := hsub _ _ e4
            have J0 := hsub _ _ d0; have J1 := hsub _ _ d1; have J2 := hsub _ _ d2; have J3 := hsub _ _ d3_; have J4 := hsub _ _ d4_
            clear hsub e0 e1 e2 e3 e4 z0 z1 z2 z3 z4 d0 d1 d2 d3_ d4_ s0 s1 s2 s3 s4 hp0 hq0 hlo hlo2 hlw
            go_wp2_with fail
            refine wp_region_otN (fun wS => Chg (B12 b1 b2) wr wS) (.get 0 (.get 1 (.get 2 (.get 3 (.get 4 (.get 5 (.get 6 (.get 7 (.get 8 (.get 9 (.get 10 (.get 11 (.get 12 (.one 13 .done)))))))))))))) (by kernel_rfl) (by kernel_rfl) (Chg.refl _ _).drew ?_
            apply wpT_get rfl
            · go_simp
            · intro wS hS
              go_simp
              try rfl
            intro K hK
            go_simp
            refine hK _ ?_
            clear hK K
            apply wpT_get rfl
            · go_simp
            · intro wS hS
              go_simp
              try rfl
            intro K hK
            go_simp
            refine hK _ ?_
            clear hK K
            apply wpT_get rfl
            · go_simp
            · intro wS hS
              go_simp
              try rfl
            intro K hK
            go_simp
            refine hK _ ?_
            clear hK K
            apply wpT_get rfl
            · go_simp
            · intro wS hS
              go_simp
              try rfl
            intro K hK
            go_simp
            refine hK _ ?_
            clear hK K
            apply wpT_get rfl
            · go_simp
            · intro wS hS
              have x0 := hS.cell k3_ HN1.out
              go_simp
              try rfl
            intro K hK
            go_simp
            refine hK _ ?_
            clear hK K
            apply wpT_get rfl
            · go_simp
            · intro wS hS
              go_simp
              try rfl
            intro K hK
            go_simp
            refine hK _ ?_
            clear hK K
            apply wpT_get rfl
            · go_simp
            · intro wS hS
              go_simp
              try rfl
            intro K hK
            go_simp
            refine hK _ ?_
            clear hK K
            apply wpT_get rfl
            · go_simp
            · intro wS hS
              have x0 := hS.cell F0 HNP.out
              have x1 := hS.cell F1 HNP.out
              have x2 := hS.cell F2 HNP.out
              have x3 := hS.cell F3 HNP.out
              have x4 := hS.cell F4 HNP.out
              go_simp
              try rfl
            intro K hK
            go_simp
            refine hK _ ?_
            clear hK K
            apply wpT_get rfl
            · go_simp
            · intro wS hS
              go_simp
              try rfl
            intro K hK
            go_simp
            refine hK _ ?_
            clear hK K
            apply wpT_get rfl
            · go_simp
            · intro wS hS
              have x0 := hS.cell j3_ HN2.out
              go_simp
              try rfl
            intro K hK
            go_simp
            refine hK _ ?_
            clear hK K
            apply wpT_get rfl
            · go_simp
            · intro wS hS
              go_simp
              try rfl
            intro K hK
            go_simp
            refine hK _ ?_
            clear hK K
            apply wpT_get rfl
            · go_simp
            · intro wS hS
              go_simp
              try rfl
            intro K hK
            go_simp
            refine hK _ ?_
            clear hK K
            apply wpT_get rfl
            · go_simp
            · intro wS hS
              have x0 := hS.cell J0 HNQ.out
              have x1 := hS.cell J1 HNQ.out
              have x2 := hS.cell J2 HNQ.out
              have x3 := hS.cell J3 HNQ.out
              have x4 := hS.cell J4 HNQ.out
              go_simp
              try rfl
            intro K hK
            go_simp
            refine hK _ ?_
            clear hK K
            refine wpT_one rfl (fun K hK => ?_)
            go_wp2_with fail
            refine (OR.out _ HKP.out W0 wr.drew b1 b2 m' _ _ _ _ _ (HS.out.keep (Chg.refl _ _).drew) HN.out HVP.out HVQ.out (HZR.out _ HKQ.out)).mono ?_
            rintro e w1 ⟨rfl, hs1, hc1⟩
            have HS1 := Lib.hid hs1; have HC1 := Lib.hid ((Chg.refl (B12 b1 b2) wr).drew.trans hc1 (fun _ _ e => e)); have HCZ := Lib.hid (HC.out.trans HC1.out (fun _ _ e => e))
            clear hs1 hc1
            go_wp2_with fail
            refine hK _ _ HC1.out ?_
            clear hK K
            refine wpT_doneN ?_
            go_wp2_with fail
            go_roundw
            case rel => exact ⟨k + 1, _, by omega, by omega, by go_num, HS1.out, HCZ.out, by rw [← HST.out]; exact HL.out⟩
            case measure => simp [intOf]; omega
          · have HST := Lib.hid (show m' = infL names p.res a.res (infL names p.args a.args m) by rw [← HL.out]; exact (infL_stop names _ _ _ _ (by omega)).symm)
            have hend' : ¬ (k : Int) < p.res.length ∨ ((k : Int) < p.res.length ∧ ¬ (k : Int) < a.res.length) := by omega
            clear hend hk hk'
            rcases hend' with hen | ⟨hen, hen2⟩
            all_goals
              go_wp2_with fail
              go_end0
              exact ⟨rfl, by rw [HE.out, ← HST.out]; exact HS.out, HC2.out.trans HC.out (fun _ _ e => e)⟩
set_option maxRecDepth 100000 in
set_option maxHeartbeats 6400000 in
theorem rwlk_seven {names : List ByteArray} (p : Ty) (W0 w : World) (b1 b2 : Nat) (m : TyM) (vs us : List Value) (A : Option Addr) (c : Nat) (a : Ty) (h6 : p.kind = 7) (hpa : p.kind = a.kind) (o_args : ∀ x ∈ p.args, RWlk names x) (o_res : ∀ x ∈ p.res, RWlk names x) (hw : WS W0 names b1 b2 w m) (hn : SL W0 1 (strs names) names.length A c) (hv : Vals W0 p.d vs) (hu : Vals W0 a.d us) (hz : a.sz ≤ 1000000) :
    Calls Try.prog 49 #[.slice A names.length c, .slice (some ⟨b1, 0, none⟩) names.length names.length, .slice (some ⟨b2, 0, none⟩) names.length names.length, .agg vs.toArray, .agg us.toArray] w (WlkP W0 w names b1 b2 (infT names p a m)) := by
  obtain ⟨A3, c3, A4, c4, rfl, q0, q1, q2, q3, q4⟩ := Ty.opn hv
  obtain ⟨B3, d3, B4, d4, rfl, y0, y1, y2, y3, y4⟩ := Ty.opn hu
  have hcw : Chg (fun _ => False) w ((w.alloc (.cells #[.int .i64 p.kind, .string p.pkg, .string p.name, .slice A3 p.args.length c3, .slice A4 p.res.length c4] 26)).alloc (.cells #[.int .i64 a.kind, .string a.pkg, .string a.name, .slice B3 a.args.length d3, .slice B4 a.res.length d4] 26)) := ((Chg.refl _ w).alloc _).alloc _
  have HS2 := Lib.hid (hw.keep hcw)
  have HC2 := Lib.hid (show Chg (B12 b1 b2) w ((w.alloc (.cells #[.int .i64 p.kind, .string p.pkg, .string p.name, .slice A3 p.args.length c3, .slice A4 p.res.length c4] 26)).alloc (.cells #[.int .i64 a.kind, .string a.pkg, .string a.name, .slice B3 a.args.length d3, .slice B4 a.res.length d4] 26)) from hcw.mono (fun _ _ q => q.elim))
  have HLW := Lib.hid hw.below.size
  have hnl := hn.2.2.1
  unfold Reach at hnl
  have HZ := Lib.hid hz; have HN := Lib.hid hn; have HU := Lib.hid hu
  have HP2 := Lib.hid (show ((w.alloc (.cells #[.int .i64 p.kind, .string p.pkg, .string p.name, .slice A3 p.args.length c3, .slice A4 p.res.length c4] 26)).alloc (.cells #[.int .i64 a.kind, .string a.pkg, .string a.name, .slice B3 a.args.length d3, .slice B4 a.res.length d4] 26)).heap[w.heap.size]? = some (.cells #[.int .i64 p.kind, .string p.pkg, .string p.name, .slice A3 p.args.length c3, .slice A4 p.res.length c4] 26 (0, 0)) from alloc_old (alloc_at w _) _)
  have HA2 := Lib.hid (show ((w.alloc (.cells #[.int .i64 p.kind, .string p.pkg, .string p.name, .slice A3 p.args.length c3, .slice A4 p.res.length c4] 26)).alloc (.cells #[.int .i64 a.kind, .string a.pkg, .string a.name, .slice B3 a.args.length d3, .slice B4 a.res.length d4] 26)).heap[w.heap.size + 1]? = some (.cells #[.int .i64 a.kind, .string a.pkg, .string a.name, .slice B3 a.args.length d3, .slice B4 a.res.length d4] 26 (0, 0)) from by have := alloc_at (w.alloc (.cells #[.int .i64 p.kind, .string p.pkg, .string p.name, .slice A3 p.args.length c3, .slice A4 p.res.length c4] 26)) (.cells #[.int .i64 a.kind, .string a.pkg, .string a.name, .slice B3 a.args.length d3, .slice B4 a.res.length d4] 26); rwa [World.size_alloc] at this)
  have hb : b1 < w.heap.size ∧ b2 < w.heap.size := by
    obtain ⟨hs, st, h1, _⟩ := hw.st
    exact h1.lt
  obtain ⟨hb1, hb2⟩ := hb
  have HE := Lib.hid (show infT names p a m = infL names p.res a.res (infL names p.args a.args m) by
    rw [infT_eq, if_neg (by rw [h6]; simp), if_pos (by rw [decide_eq_true hpa, h6]; rfl)])
  have hkb : (p.kind == 9) = false := by simp [h6]
  have kb0 : (p.kind != a.kind) = false := by simp [hpa]
  have kb6 : (p.kind != 6) = true := by simp [h6]
  have kb7 : (p.kind != 7) = false := by simp [h6]
  have OA := Lib.hid o_args; have OR := Lib.hid o_res
  have P3 := Lib.hid q3; have P4 := Lib.hid q4; have R3 := Lib.hid y3; have R4 := Lib.hid y4
  have HZA := Lib.hid (show ∀ x ∈ a.args, x.sz ≤ 1000000 from fun x hx => by have := Ty.mem_sz hx; have := Ty.sz_eq a; omega)
  have HZR := Lib.hid (show ∀ x ∈ a.res, x.sz ≤ 1000000 from fun x hx => by have := Ty.mem_sz hx; have := Ty.sz_eq a; omega)
  have hl3 := q3.2.2.1; have hl4 := q4.2.2.1; have hm3 := y3.2.2.1; have hm4 := y4.2.2.1
  unfold Reach at hl3 hl4 hm3 hm4
  clear q0 q1 q2 q3 q4 y0 y1 y2 y3 y4 hw hn hv hu hz hcw o_args o_res h6 hpa
  go_enter Try.func49, Try.ntmps49
  go_wp2_with fail
  obtain ⟨wz, hwz⟩ : ∃ x, x = ((w.alloc (.cells #[.int .i64 p.kind, .string p.pkg, .string p.name, .slice A3 p.args.length c3, .slice A4 p.res.length c4] 26)).alloc (.cells #[.int .i64 a.kind, .string a.pkg, .string a.name, .slice B3 a.args.length d3, .slice B4 a.res.length d4] 26)) := ⟨_, rfl⟩
  have hs2 := HS2.out; have hc2 := HC2.out; have hp2 := HP2.out; have ha2 := HA2.out
  rw [← hwz] at hs2 hc2 hp2 ha2
  rw [← hwz]
  have hsz : w.heap.size + 2 ≤ wz.heap.size := by rw [hwz]; simp
  clear hwz HS2 HC2 HP2 HA2
  have HS2 := Lib.hid hs2; have HC2 := Lib.hid hc2; have HP2 := Lib.hid hp2; have HA2 := Lib.hid ha2
  clear hs2 hc2 hp2 ha2
  go_loopw [11] (fun i wr => ∃ (k : Nat) (m' : TyM), k ≤ p.args.length ∧ k ≤ a.args.length ∧ i = .int .i64 k ∧ WS W0 names b1 b2 wr m' ∧ Chg (B12 b1 b2) wz wr ∧ infL names (p.args.drop k) (a.args.drop k) m' = infL names p.args a.args m) (fun i _ => p.args.length - (intOf i).toNat)
  case atStart => exact ⟨0, _, Nat.zero_le _, Nat.zero_le _, rfl, HS2.out, Chg.refl _ _, rfl⟩
  case round =>
    obtain ⟨k, m', hk, hk', rfl, hS, hC, hL⟩ := hrel
    have HS := Lib.hid hS; have HC := Lib.hid hC; have HL := Lib.hid hL
    clear hS hC hL
    have k3_ : wr.cell? ⟨w.heap.size, 3, none⟩ = some (.slice A3 p.args.length c3) := (cell_at (HC.out.heap HP2.out (by show ¬ (_ = _ ∨ _ = _); omega)) 3).trans rfl
    have j3_ : wr.cell? ⟨w.heap.size + 1, 3, none⟩ = some (.slice B3 a.args.length d3) := (cell_at (HC.out.heap HA2.out (by show ¬ (_ = _ ∨ _ = _); omega)) 3).trans rfl
    have hst : k < p.args.length ∧ k < a.args.length ∨ (¬ k < p.args.length ∨ k < p.args.length ∧ ¬ k < a.args.length) := by omega
    rcases hst with ⟨hlt, hlt2⟩ | hend
    · have hlt1_ : (k : Int) < p.args.length := by omega
      have hlt2_ : (k : Int) < a.args.length := by omega
      obtain ⟨bp, op, hAp, E3, f3, E4, f4, e0, e1, e2, e3, e4, z0, z1, z2, z3, z4⟩ := Ty.at P3.out.2.2.2 k hlt
      obtain ⟨bq, oq, hAq, G3, g3, G4, g4, d0, d1, d2, d3_, d4_, s0, s1, s2, s3, s4⟩ := Ty.at R3.out.2.2.2 k hlt2
      subst hAp hAq
      have HST := Lib.hid (infL_step names p.args a.args m' k hlt hlt2)
      have HVP := Lib.hid (Ty.shut (w := W0) (t := p.args[k]) z0 z1 z2 z3 z4)
      have HVQ := Lib.hid (Ty.shut (w := W0) (t := a.args[k]) s0 s1 s2 s3 s4)
      have HKP := Lib.hid (List.getElem_mem hlt); have HKQ := Lib.hid (List.getElem_mem hlt2)
      have hlo := HS.out.hi1; have hlo2 := HS.out.hi2; have hlw := HLW.out
      have hp0 : bp < W0.heap.size := World.block_lt_of_cell? W0 (a := ⟨bp, op + k * 5, none⟩) e0
      have hq0 : bq < W0.heap.size := World.block_lt_of_cell? W0 (a := ⟨bq, oq + k * 5, none⟩) d0
      have HNP := Lib.hid (show ¬ B12 b1 b2 bp by show ¬ (_ = _ ∨ _ = _); omega); have HNQ := Lib.hid (show ¬ B12 b1 b2 bq by show ¬ (_ = _ ∨ _ = _); omega)
      have HN1 := Lib.hid (show ¬ B12 b1 b2 w.heap.size by show ¬ (_ = _ ∨ _ = _); omega); have HN2 := Lib.hid (show ¬ B12 b1 b2 (w.heap.size + 1) by show ¬ (_ = _ ∨ _ = _); omega)
      have hsub := Below.sub HS.out.below
      have F0 := hsub _ _ e0; have F1 := hsub _ _ e1; have F2 := hsub _ _ e2; have F3 := hsub _ _ e3; have F4 := hsub _ _ e4
      have J0 := hsub _ _ d0; have J1 := hsub _ _ d1; have J2 := hsub _ _ d2; have J3 := hsub _ _ d3_; have J4 := hsub _ _ d4_
      clear hsub e0 e1 e2 e3 e4 z0 z1 z2 z3 z4 d0 d1 d2 d3_ d4_ s0 s1 s2 s3 s4 hp0 hq0 hlo hlo2 hlw
      go_wp2_with fail
      refine wp_region_otN (fun wS => Chg (B12 b1 b2) wr wS) (.get 0 (.get 1 (.get 2 (.get 3 (.get 4 (.get 5 (.get 6 (.get 7 (.get 8 (.get 9 (.get 10 (.get 11 (.get 12 (.one 13 .done)))))))))))))) (by kernel_rfl) (by kernel_rfl) (Chg.refl _ _).drew ?_
      apply wpT_get rfl
      · go_simp
      · intro wS hS
        go_simp
        try rfl
      intro K hK
      go_simp
      refine hK _ ?_
      clear hK K
      apply wpT_get rfl
      · go_simp
      · intro wS hS
        go_simp
        try rfl
      intro K hK
      go_simp
      refine hK _ ?_
      clear hK K
      apply wpT_get rfl
      · go_simp
      · intro wS hS
        go_simp
        try rfl
      intro K hK
      go_simp
      refine hK _ ?_
      clear hK K
      apply wpT_get rfl
      · go_simp
      · intro wS hS
        go_simp
        try rfl
      intro K hK
      go_simp
      refine hK _ ?_
      clear hK K
      apply wpT_get rfl
      · go_simp
      · intro wS hS
        have x0 := hS.cell k3_ HN1.out
        go_simp
        try rfl
      intro K hK
      go_simp
      refine hK _ ?_
      clear hK K
      apply wpT_get rfl
      · go_simp
      · intro wS hS
        go_simp
        try rfl
      intro K hK
      go_simp
      refine hK _ ?_
      clear hK K
      apply wpT_get rfl
      · go_simp
      · intro wS hS
        go_simp
        try rfl
      intro K hK
      go_simp
      refine hK _ ?_
      clear hK K
      apply wpT_get rfl
      · go_simp
      · intro wS hS
        have x0 := hS.cell F0 HNP.out
        have x1 := hS.cell F1 HNP.out
        have x2 := hS.cell F2 HNP.out
        have x3 := hS.cell F3 HNP.out
        have x4 := hS.cell F4 HNP.out
        go_simp
        try rfl
      intro K hK
      go_simp
      refine hK _ ?_
      clear hK K
      apply wpT_get rfl
      · go_simp
      · intro wS hS
        go_simp
        try rfl
      intro K hK
      go_simp
      refine hK _ ?_
      clear hK K
      apply wpT_get rfl
      · go_simp
      · intro wS hS
        have x0 := hS.cell j3_ HN2.out
        go_simp
        try rfl
      intro K hK
      go_simp
      refine hK _ ?_
      clear hK K
      apply wpT_get rfl
      · go_simp
      · intro wS hS
        go_simp
        try rfl
      intro K hK
      go_simp
      refine hK _ ?_
      clear hK K
      apply wpT_get rfl
      · go_simp
      · intro wS hS
        go_simp
        try rfl
      intro K hK
      go_simp
      refine hK _ ?_
      clear hK K
      apply wpT_get rfl
      · go_simp
      · intro wS hS
        have x0 := hS.cell J0 HNQ.out
        have x1 := hS.cell J1 HNQ.out
        have x2 := hS.cell J2 HNQ.out
        have x3 := hS.cell J3 HNQ.out
        have x4 := hS.cell J4 HNQ.out
        go_simp
        try rfl
      intro K hK
      go_simp
      refine hK _ ?_
      clear hK K
      refine wpT_one rfl (fun K hK => ?_)
      go_wp2_with fail
      refine (OA.out _ HKP.out W0 wr.drew b1 b2 m' _ _ _ _ _ (HS.out.keep (Chg.refl _ _).drew) HN.out HVP.out HVQ.out (HZA.out _ HKQ.out)).mono ?_
      rintro e w1 ⟨rfl, hs1, hc1⟩
      have HS1 := Lib.hid hs1; have HC1 := Lib.hid ((Chg.refl (B12 b1 b2) wr).drew.trans hc1 (fun _ _ e => e)); have HCZ := Lib.hid (HC.out.trans HC1.out (fun _ _ e => e))
      clear hs1 hc1
      go_wp2_with fail
      refine hK _ _ HC1.out ?_
      clear hK K
      refine wpT_doneN ?_
      go_wp2_with fail
      go_roundw
      case rel => exact ⟨k + 1, _, by omega, by omega, by go_num, HS1.out, HCZ.out, by rw [← HST.out]; exact HL.out⟩
      case measure => simp [intOf]; omega
    · have HST := Lib.hid (show m' = infL names p.args a.args m by rw [← HL.out]; exact (infL_stop names _ _ _ _ (by omega)).symm)
      have hend' : ¬ (k : Int) < p.args.length ∨ ((k : Int) < p.args.length ∧ ¬ (k : Int) < a.args.length) := by omega
      clear hend hk hk'
      rcases hend' with hen | ⟨hen, hen2⟩
      all_goals
        have HSY := Lib.hid HS.out; have HCY := Lib.hid HC.out
        rw [HST.out] at HSY
        obtain ⟨wy, rfl⟩ : ∃ x, x = wr := ⟨_, rfl⟩
        go_wp2_with fail
        clear HST HL HS HC k3_ j3_
        go_loopw [12] (fun i wr => ∃ (k : Nat) (m' : TyM), k ≤ p.res.length ∧ k ≤ a.res.length ∧ i = .int .i64 k ∧ WS W0 names b1 b2 wr m' ∧ Chg (B12 b1 b2) wz wr ∧ infL names (p.res.drop k) (a.res.drop k) m' = infL names p.res a.res (infL names p.args a.args m)) (fun i _ => p.res.length - (intOf i).toNat)
        case atStart => exact ⟨0, _, Nat.zero_le _, Nat.zero_le _, rfl, HSY.out, HCY.out, rfl⟩
        case round =>
          obtain ⟨k, m', hk, hk', rfl, hS, hC, hL⟩ := hrel
          have HS := Lib.hid hS; have HC := Lib.hid hC; have HL := Lib.hid hL
          clear hS hC hL
          have k3_ : wr.cell? ⟨w.heap.size, 4, none⟩ = some (.slice A4 p.res.length c4) := (cell_at (HC.out.heap HP2.out (by show ¬ (_ = _ ∨ _ = _); omega)) 4).trans rfl
          have j3_ : wr.cell? ⟨w.heap.size + 1, 4, none⟩ = some (.slice B4 a.res.length d4) := (cell_at (HC.out.heap HA2.out (by show ¬ (_ = _ ∨ _ = _); omega)) 4).trans rfl
          have hst : k < p.res.length ∧ k < a.res.length ∨ (¬ k < p.res.length ∨ k < p.res.length ∧ ¬ k < a.res.length) := by omega
          rcases hst with ⟨hlt, hlt2⟩ | hend
          · have hlt1_ : (k : Int) < p.res.length := by omega
            have hlt2_ : (k : Int) < a.res.length := by omega
            obtain ⟨bp, op, hAp, E3, f3, E4, f4, e0, e1, e2, e3, e4, z0, z1, z2, z3, z4⟩ := Ty.at P4.out.2.2.2 k hlt
            obtain ⟨bq, oq, hAq, G3, g3, G4, g4, d0, d1, d2, d3_, d4_, s0, s1, s2, s3, s4⟩ := Ty.at R4.out.2.2.2 k hlt2
            subst hAp hAq
            have HST := Lib.hid (infL_step names p.res a.res m' k hlt hlt2)
            have HVP := Lib.hid (Ty.shut (w := W0) (t := p.res[k]) z0 z1 z2 z3 z4)
            have HVQ := Lib.hid (Ty.shut (w := W0) (t := a.res[k]) s0 s1 s2 s3 s4)
            have HKP := Lib.hid (List.getElem_mem hlt); have HKQ := Lib.hid (List.getElem_mem hlt2)
            have hlo := HS.out.hi1; have hlo2 := HS.out.hi2; have hlw := HLW.out
            have hp0 : bp < W0.heap.size := World.block_lt_of_cell? W0 (a := ⟨bp, op + k * 5, none⟩) e0
            have hq0 : bq < W0.heap.size := World.block_lt_of_cell? W0 (a := ⟨bq, oq + k * 5, none⟩) d0
            have HNP := Lib.hid (show ¬ B12 b1 b2 bp by show ¬ (_ = _ ∨ _ = _); omega); have HNQ := Lib.hid (show ¬ B12 b1 b2 bq by show ¬ (_ = _ ∨ _ = _); omega)
            have HN1 := Lib.hid (show ¬ B12 b1 b2 w.heap.size by show ¬ (_ = _ ∨ _ = _); omega); have HN2 := Lib.hid (show ¬ B12 b1 b2 (w.heap.size + 1) by show ¬ (_ = _ ∨ _ = _); omega)
            have hsub := Below.sub HS.out.below
            have F0 := hsub _ _ e0; have F1 := hsub _ _ e1; have F2 := hsub _ _ e2; have F3 := hsub _ _ e3; have F4 := hsub _ _ e4
            have J0 := hsub _ _ d0; have J1 := hsub _ _ d1; have J2 := hsub _ _ d2; have J3 := hsub _ _ d3_; have J4 := hsub _ _ d4_
            clear hsub e0 e1 e2 e3 e4 z0 z1 z2 z3 z4 d0 d1 d2 d3_ d4_ s0 s1 s2 s3 s4 hp0 hq0 hlo hlo2 hlw
            go_wp2_with fail
            refine wp_region_otN (fun wS => Chg (B12 b1 b2) wr wS) (.get 0 (.get 1 (.get 2 (.get 3 (.get 4 (.get 5 (.get 6 (.get 7 (.get 8 (.get 9 (.get 10 (.get 11 (.get 12 (.one 13 .done)))))))))))))) (by kernel_rfl) (by kernel_rfl) (Chg.refl _ _).drew ?_
            apply wpT_get rfl
            · go_simp
            · intro wS hS
              go_simp
              try rfl
            intro K hK
            go_simp
            refine hK _ ?_
            clear hK K
            apply wpT_get rfl
            · go_simp
            · intro wS hS
              go_simp
              try rfl
            intro K hK
            go_simp
            refine hK _ ?_
            clear hK K
            apply wpT_get rfl
            · go_simp
            · intro wS hS
              go_simp
              try rfl
            intro K hK
            go_simp
            refine hK _ ?_
            clear hK K
            apply wpT_get rfl
            · go_simp
            · intro wS hS
              go_simp
              try rfl
            intro K hK
            go_simp
            refine hK _ ?_
            clear hK K
            apply wpT_get rfl
            · go_simp
            · intro wS hS
              have x0 := hS.cell k3_ HN1.out
              go_simp
              try rfl
            intro K hK
            go_simp
            refine hK _ ?_
            clear hK K
            apply wpT_get rfl
            · go_simp
            · intro wS hS
              go_simp
              try rfl
            intro K hK
            go_simp
            refine hK _ ?_
            clear hK K
            apply wpT_get rfl
            · go_simp
            · intro wS hS
              go_simp
              try rfl
            intro K hK
            go_simp
            refine hK _ ?_
            clear hK K
            apply wpT_get rfl
            · go_simp
            · intro wS hS
              have x0 := hS.cell F0 HNP.out
              have x1 := hS.cell F1 HNP.out
              have x2 := hS.cell F2 HNP.out
              have x3 := hS.cell F3 HNP.out
              have x4 := hS.cell F4 HNP.out
              go_simp
              try rfl
            intro K hK
            go_simp
            refine hK _ ?_
            clear hK K
            apply wpT_get rfl
            · go_simp
            · intro wS hS
              go_simp
              try rfl
            intro K hK
            go_simp
            refine hK _ ?_
            clear hK K
            apply wpT_get rfl
            · go_simp
            · intro wS hS
              have x0 := hS.cell j3_ HN2.out
              go_simp
              try rfl
            intro K hK
            go_simp
            refine hK _ ?_
            clear hK K
            apply wpT_get rfl
            · go_simp
            · intro wS hS
              go_simp
              try rfl
            intro K hK
            go_simp
            refine hK _ ?_
            clear hK K
            apply wpT_get rfl
            · go_simp
            · intro wS hS
              go_simp
              try rfl
            intro K hK
            go_simp
            refine hK _ ?_
            clear hK K
            apply wpT_get rfl
            · go_simp
            · intro wS hS
              have x0 := hS.cell J0 HNQ.out
              have x1 := hS.cell J1 HNQ.out
              have x2 := hS.cell J2 HNQ.out
              have x3 := hS.cell J3 HNQ.out
              have x4 := hS.cell J4 HNQ.out
              go_simp
              try rfl
            intro K hK
            go_simp
            refine hK _ ?_
            clear hK K
            refine wpT_one rfl (fun K hK => ?_)
            go_wp2_with fail
            refine (OR.out _ HKP.out W0 wr.drew b1 b2 m' _ _ _ _ _ (HS.out.keep (Chg.refl _ _).drew) HN.out HVP.out HVQ.out (HZR.out _ HKQ.out)).mono ?_
            rintro e w1 ⟨rfl, hs1, hc1⟩
            have HS1 := Lib.hid hs1; have HC1 := Lib.hid ((Chg.refl (B12 b1 b2) wr).drew.trans hc1 (fun _ _ e => e)); have HCZ := Lib.hid (HC.out.trans HC1.out (fun _ _ e => e))
            clear hs1 hc1
            go_wp2_with fail
            refine hK _ _ HC1.out ?_
            clear hK K
            refine wpT_doneN ?_
            go_wp2_with fail
            go_roundw
            case rel => exact ⟨k + 1, _, by omega, by omega, by go_num, HS1.out, HCZ.out, by rw [← HST.out]; exact HL.out⟩
            case measure => simp [intOf]; omega
          · have HST := Lib.hid (show m' = infL names p.res a.res (infL names p.args a.args m) by rw [← HL.out]; exact (infL_stop names _ _ _ _ (by omega)).symm)
            have hend' : ¬ (k : Int) < p.res.length ∨ ((k : Int) < p.res.length ∧ ¬ (k : Int) < a.res.length) := by omega
            clear hend hk hk'
            rcases hend' with hen | ⟨hen, hen2⟩
            all_goals
              go_wp2_with fail
              go_end0
              exact ⟨rfl, by rw [HE.out, ← HST.out]; exact HS.out, HC2.out.trans HC.out (fun _ _ e => e)⟩
theorem rwlk_size {names : List ByteArray} : ∀ (n : Nat) (p : Ty), SizeOf.sizeOf p < n → RWlk names p
  | 0, _, h => absurd h (Nat.not_lt_zero _)
  | n + 1, .mk k g s xs ys, h => by
    simp only [Ty.mk.sizeOf_spec] at h
    intro W0 w b1 b2 m vs us A c a hw hn hv hu hz
    by_cases h9 : (Ty.mk k g s xs ys).kind = 9 ∧ placeN names (Ty.mk k g s xs ys).name < names.length
    · exact rwlk_var _ h9.1 h9.2 W0 w b1 b2 m vs us A c a hw hn hv hu hz
    have o1 : ∀ x ∈ (Ty.mk k g s xs ys).args, RWlk names x := fun x hx => rwlk_size n x (by have := List.sizeOf_lt_of_mem hx; simp only [Ty.args] at this; omega)
    have o2 : ∀ x ∈ (Ty.mk k g s xs ys).res, RWlk names x := fun x hx => rwlk_size n x (by have := List.sizeOf_lt_of_mem hx; simp only [Ty.res] at this; omega)
    by_cases h67 : (Ty.mk k g s xs ys).kind = a.kind ∧ ((Ty.mk k g s xs ys).kind = 6 ∨ (Ty.mk k g s xs ys).kind = 7)
    · rcases h67 with ⟨he, h6 | h7⟩
      · exact rwlk_six _ W0 w b1 b2 m vs us A c a h6 he o1 o2 hw hn hv hu hz
      · exact rwlk_seven _ W0 w b1 b2 m vs us A c a h7 he o1 o2 hw hn hv hu hz
    · exact rwlk_none _ W0 w b1 b2 m vs us A c a h9 h67 hw hn hv hu hz
theorem rwlk (names : List ByteArray) (p : Ty) : RWlk names p := rwlk_size _ p (Nat.lt_succ_self _)
end Go.Proofs.Ytiecbgclkdlpkaa
