/-
  The walks of mortiseref8.Encode and of both Hash. The conditions: the unit reads; its parts are not too many for memory.
-/
import Derived.Test.YtghnaaahkbnhlaaRwB
import Derived.Test.YtghnaaahkbnhlaaEnc
namespace Go.Proofs.Ytghnaaahkbnhlaa
open Go.RowKit Go.Lib
set_option linter.unusedVariables false
set_option linter.unusedSimpArgs false

def Un.cost (u : Un) : Nat := 262153 + ((8 + Imp.costL u.imports) + ((8 + Dcl.costL u.decls) + (8 + Fn.costL u.bodies)))
theorem RwS.first (w : World) : RwS w (w.alloc (.cells #[.slice none 0 0, .bool false, .int .i64 0] 74)) w.heap.size ⟨[], false, 0, none⟩ :=
  ⟨(Below.refl _ _).alloc (Nat.le_refl _) _, Nat.le_refl _, ⟨_, alloc_at w _, World.ownsRow_nil _ _ _ _, rfl⟩, by simp⟩
def markL : List UInt8 := [77, 85, 49, 10]
theorem ideal_mark : Ideal markL markL := .inl ⟨rfl, by decide⟩
def RLoopDcl (W0 : World) (bw : Nat) (w : World) (st : RSt) (l : List Dcl) (k : Nat) (wr : World) : Prop := ∃ st', RWr W0 bw w st (encDclL (l.take k)) (Dcl.costL (l.take k)) (!(l.take k).all shalD) wr st'
theorem RLoopDcl.next {W0 w wr w2 : World} {bw : Nat} {st st1 st2 : RSt} {l : List Dcl} {k : Nat} (h : RWr W0 bw w st (encDclL (l.take k)) (Dcl.costL (l.take k)) (!(l.take k).all shalD) wr st1) (hk : k < l.length) (q : RWr W0 bw wr st1 (encDcl l[k]) (Dcl.cost l[k]) (!shalD l[k]) w2 st2) : RLoopDcl W0 bw w st l (k + 1) w2 := by
  refine ⟨st2, (h.trans q).as ?_ ?_ ?_⟩
  · rw [encDclL_take l k hk]
  · rw [Dcl.costL_take l k hk]; omega
  · rw [List.take_succ_eq_append_getElem hk, List.all_append, Bool.not_and]; simp
def RLoopFn (W0 : World) (bw : Nat) (w : World) (st : RSt) (l : List Fn) (k : Nat) (wr : World) : Prop := ∃ st', RWr W0 bw w st (encFnL (l.take k)) (Fn.costL (l.take k)) (!(l.take k).all shalF) wr st'
theorem RLoopFn.next {W0 w wr w2 : World} {bw : Nat} {st st1 st2 : RSt} {l : List Fn} {k : Nat} (h : RWr W0 bw w st (encFnL (l.take k)) (Fn.costL (l.take k)) (!(l.take k).all shalF) wr st1) (hk : k < l.length) (q : RWr W0 bw wr st1 (encFn l[k]) (Fn.cost l[k]) (!shalF l[k]) w2 st2) : RLoopFn W0 bw w st l (k + 1) w2 := by
  refine ⟨st2, (h.trans q).as ?_ ?_ ?_⟩
  · rw [encFnL_take l k hk]
  · rw [Fn.costL_take l k hk]; omega
  · rw [List.take_succ_eq_append_getElem hk, List.all_append, Bool.not_and]; simp

/-- What is answered, out of the last state. -/
theorem rend {W0 wN wE : World} {bw : Nat} {u : Un} {stN stE : RSt} (hN : stN.deep = false) (hs : shalU u = true) (hi : Ideal stN.bs (encU u)) (q : RWr W0 bw wN stN (le8 (fnv stN.bs)) 8 false wE stE) :
    (262144 < stE.bs.length → encodeP u = ([], 2)) ∧ (¬ 262144 < stE.bs.length → encodeP u = (stE.bs, 0)) := by
  have hE : stE.deep = false := by rw [q.deep_eq, hN]; rfl
  have h := q.put hE _ hi
  have hl : (encU u ++ le8 (fnv stN.bs)).length = (encU u).length + 8 := by rw [List.length_append, le8_length]
  rcases h with ⟨h1, h2⟩ | ⟨h1, h2⟩
  · refine ⟨fun hf => absurd hf (by rw [h1]; omega), fun _ => ?_⟩
    rcases hi with ⟨e, _⟩ | ⟨_, e⟩
    · rw [encodeP, hs, if_neg (by simp), if_pos (by omega), h1, e]
    · omega
  · refine ⟨fun _ => ?_, fun hf => absurd h1 hf⟩
    rw [encodeP, hs, if_neg (by simp), if_neg (by omega)]
theorem shal_split (u : Un) : (!u.decls.all shalD || !u.bodies.all shalF) = !shalU u := by unfold shalU; rw [Bool.not_and]

set_option maxRecDepth 100000 in
set_option maxHeartbeats 3200000 in
theorem rencode_any (w : World) (u : Un) (vs : List Value) (hv : Vals w u.d vs) (hb : Un.cost u + 12 ≤ 100000000000000) : Calls Try.prog 16 #[.agg vs.toArray] w (EncPost w u) := by
  obtain ⟨A1, c1, A2, c2, A3, c3, rfl, q0, q1, q2, q3⟩ := Un.opn hv
  have hA0 := alloc_at w (.cells #[.string u.pkg, .slice A1 u.imports.length c1, .slice A2 u.decls.length c2, .slice A3 u.bodies.length c3] 30)
  have hB0 : Below w.heap.size w (w.alloc (.cells #[.string u.pkg, .slice A1 u.imports.length c1, .slice A2 u.decls.length c2, .slice A3 u.bodies.length c3] 30)) := (Below.refl _ _).alloc (Nat.le_refl _) _
  have hsub := Below.sub hB0
  have Q0 := Lib.hid q0; have Q1 := Lib.hid (q1.sub hsub); have Q2 := Lib.hid (q2.sub hsub); have Q3 := Lib.hid (q3.sub hsub)
  have hr1 := q1.2.2.1; have hr2 := q2.2.2.1; have hr3 := q3.2.2.1
  unfold Reach at hr1 hr2 hr3
  have K0 := Lib.hid ((cell_at hA0 0).trans rfl : _ = some (.string u.pkg))
  have K1 := Lib.hid ((cell_at hA0 1).trans rfl : _ = some (.slice A1 u.imports.length c1))
  have K2 := Lib.hid ((cell_at hA0 2).trans rfl : _ = some (.slice A2 u.decls.length c2))
  have K3 := Lib.hid ((cell_at hA0 3).trans rfl : _ = some (.slice A3 u.bodies.length c3))
  have HB0 := Lib.hid hB0
  have HBB := Lib.hid hb
  have hbw : (w.alloc (.cells #[.string u.pkg, .slice A1 u.imports.length c1, .slice A2 u.decls.length c2, .slice A3 u.bodies.length c3] 30)).heap.size = w.heap.size + 1 := World.size_alloc _ _
  have HF := Lib.hid (show RwS (w.alloc (.cells #[.string u.pkg, .slice A1 u.imports.length c1, .slice A2 u.decls.length c2, .slice A3 u.bodies.length c3] 30)) ((w.alloc (.cells #[.string u.pkg, .slice A1 u.imports.length c1, .slice A2 u.decls.length c2, .slice A3 u.bodies.length c3] 30)).alloc (.cells #[.slice none 0 0, .bool false, .int .i64 0] 74)) (w.heap.size + 1) ⟨[], false, 0, none⟩ from by have := RwS.first (w.alloc (.cells #[.string u.pkg, .slice A1 u.imports.length c1, .slice A2 u.decls.length c2, .slice A3 u.bodies.length c3] 30)); rwa [hbw] at this)
  have HO := Lib.hid (World.ownsRow_nil ((w.alloc (.cells #[.string u.pkg, .slice A1 u.imports.length c1, .slice A2 u.decls.length c2, .slice A3 u.bodies.length c3] 30)).alloc (.cells #[.slice none 0 0, .bool false, .int .i64 0] 74)) (w.alloc (.cells #[.string u.pkg, .slice A1 u.imports.length c1, .slice A2 u.decls.length c2, .slice A3 u.bodies.length c3] 30)).heap.size 5 1)
  have HSZ := Lib.hid (show (w.alloc (.cells #[.string u.pkg, .slice A1 u.imports.length c1, .slice A2 u.decls.length c2, .slice A3 u.bodies.length c3] 30)).heap.size ≤ ((w.alloc (.cells #[.string u.pkg, .slice A1 u.imports.length c1, .slice A2 u.decls.length c2, .slice A3 u.bodies.length c3] 30)).alloc (.cells #[.slice none 0 0, .bool false, .int .i64 0] 74)).heap.size from by simp)
  have HAW := Lib.hid (show ((w.alloc (.cells #[.string u.pkg, .slice A1 u.imports.length c1, .slice A2 u.decls.length c2, .slice A3 u.bodies.length c3] 30)).alloc (.cells #[.slice none 0 0, .bool false, .int .i64 0] 74)).heap[w.heap.size + 1]? = some (.cells #[.slice none 0 0, .bool false, .int .i64 0] 74 (0, 0)) from by have := alloc_at (w.alloc (.cells #[.string u.pkg, .slice A1 u.imports.length c1, .slice A2 u.decls.length c2, .slice A3 u.bodies.length c3] 30)) (.cells #[.slice none 0 0, .bool false, .int .i64 0] 74); rwa [hbw] at this)
  have KA0 := Lib.hid (show ((w.alloc (.cells #[.string u.pkg, .slice A1 u.imports.length c1, .slice A2 u.decls.length c2, .slice A3 u.bodies.length c3] 30)).alloc (.cells #[.slice none 0 0, .bool false, .int .i64 0] 74)).cell? ⟨w.heap.size, 0, none⟩ = some (.string u.pkg) from (cell_at (alloc_old hA0 _) 0).trans rfl)
  clear hA0 hB0 hsub q0 q1 q2 q3 hv hb hbw
  go_enter Try.func16, Try.ntmps16
  go_wp2_with (at_builtin; go_loud (refine wpList_append_str _ rfl _ _ 22 9 rfl (w.alloc (.cells #[.string u.pkg, .slice A1 u.imports.length c1, .slice A2 u.decls.length c2, .slice A3 u.bodies.length c3] 30)).heap.size 5 Try.info5 Try.underlying22 Try.underlying9 (.slice none 0 0) 0 [] rfl HO.out ⟨#[77, 85, 49, 10]⟩ rfl (by decide) HSZ.out ?_; intro v1 w1 h1 g1 r1; obtain ⟨A4, c4, rfl⟩ := own_slice h1; have hb1 : w1.heap[w.heap.size + 1]? = _ := (g1.block (w.heap.size + 1) (by simp) (fun e => by cases e)).trans HAW.out; have c10 : w1.cell? ⟨w.heap.size + 1, 0, none⟩ = some (.slice none 0 0) := (cell_at hb1 0).trans rfl; have f10 := free_at hb1 0; have k0 := ((Chg.refl (fun _ => False) _).grown g1 (fun k _ e => by cases e)).cell (p := ⟨w.heap.size, 0, none⟩) KA0.out id; have H1 := Lib.hid (rw_store (l := markL) HF.out (Chg.refl _ _) h1 g1 r1); clear hb1 h1 g1 r1))
  refine (rtext_any (w.alloc (.cells #[.string u.pkg, .slice A1 u.imports.length c1, .slice A2 u.decls.length c2, .slice A3 u.bodies.length c3] 30)) _ _ _ _ H1.out.1 Q0.out (by have h := HBB.out; unfold Un.cost at h; show markL.length + 262153 ≤ _; rw [show markL.length = 4 from rfl]; omega)).mono ?_
  rintro e w2 ⟨rfl, st2, r2⟩
  have R2 := Lib.hid r2; clear r2 c10 f10 k0
  have x1 := Below.sub R2.out.own.old _ _ K1.out
  go_wp2_with fail
  refine (rImpL_any (w.alloc (.cells #[.string u.pkg, .slice A1 u.imports.length c1, .slice A2 u.decls.length c2, .slice A3 u.bodies.length c3] 30)) _ u.imports _ st2 _ _ R2.out.own Q1.out (by have := HBB.out; have := R2.out.len; unfold Un.cost at *; simp [markL] at *; omega)).mono ?_
  rintro e w3 ⟨rfl, st3, r3⟩
  have R3 := Lib.hid r3; clear r3 x1
  have x2 := Below.sub R3.out.own.old _ _ K2.out
  go_wp2_with fail
  refine (rnum_any (w.alloc (.cells #[.string u.pkg, .slice A1 u.imports.length c1, .slice A2 u.decls.length c2, .slice A3 u.bodies.length c3] 30)) _ _ st3 _ R3.out.own (show In64 (u.decls.length : Int) from by unfold In64; omega) (by have := HBB.out; have := R2.out.len; have := R3.out.len; unfold Un.cost at *; simp [markL] at *; omega)).mono ?_
  rintro e w4 ⟨rfl, st4, r4⟩
  have R4 := Lib.hid r4; clear r4 x2
  have hd4 : st4.dp = 0 := by rw [R4.out.dp_eq, R3.out.dp_eq, R2.out.dp_eq]
  have HD4 := Lib.hid hd4; clear hd4
  have hb4 : st4.bs.length + (Dcl.costL u.decls + (8 + (Fn.costL u.bodies + 8))) ≤ 100000000000000 := by have := HBB.out; have := R2.out.len; have := R3.out.len; have := R4.out.len; unfold Un.cost at *; simp [markL] at *; omega
  have HB4 := Lib.hid hb4; clear hb4
  have hs : RLoopDcl (w.alloc (.cells #[.string u.pkg, .slice A1 u.imports.length c1, .slice A2 u.decls.length c2, .slice A3 u.bodies.length c3] 30)) (w.heap.size + 1) w4 st4 u.decls 0 w4 := ⟨st4, (RWr.nothing R4.out.own).as (by simp [encDclL]) (by simp [Dcl.costL]) (by simp)⟩
  go_wp2_with fail
  go_loopw [5] (fun i wr => ∃ k : Nat, k ≤ u.decls.length ∧ i = .int .i64 k ∧ RLoopDcl (w.alloc (.cells #[.string u.pkg, .slice A1 u.imports.length c1, .slice A2 u.decls.length c2, .slice A3 u.bodies.length c3] 30)) (w.heap.size + 1) w4 st4 u.decls k wr) (fun i _ => u.decls.length - (intOf i).toNat)
  case atStart => exact ⟨0, Nat.zero_le _, rfl, hs⟩
  case round =>
    obtain ⟨k, hk, rfl, st', hw⟩ := hrel
    clear hs
    have x2 := Below.sub hw.own.old _ _ K2.out
    by_cases hlt : k < u.decls.length
    case pos =>
      obtain ⟨b, o, hA, B7, d7, B8, d8, B9, d9, e0, e1, e2, e3, e4, e5, e6, e7, e8, e9, q0, q1, q2, q3, q4, q5, q6, q7, q8, q9⟩ := Dcl.at Q2.out.2.2.2 k hlt
      subst hA
      have HV := Lib.hid (Dcl.shut (w := (w.alloc (.cells #[.string u.pkg, .slice A1 u.imports.length c1, .slice (some ⟨b, o, none⟩) u.decls.length c2, .slice A3 u.bodies.length c3] 30))) (t := u.decls[k]) q0 q1 q2 q3 q4 q5 q6 q7 q8 q9)
      have hsub := Below.sub hw.own.old
      have f0 := hsub _ _ e0; have f1 := hsub _ _ e1; have f2 := hsub _ _ e2; have f3 := hsub _ _ e3; have f4 := hsub _ _ e4; have f5 := hsub _ _ e5; have f6 := hsub _ _ e6; have f7 := hsub _ _ e7; have f8 := hsub _ _ e8; have f9 := hsub _ _ e9
      clear e0 e1 e2 e3 e4 e5 e6 e7 e8 e9 q0 q1 q2 q3 q4 q5 q6 q7 q8 q9 hsub
      have HW := Lib.hid hw; clear hw
      go_wp2_with fail
      refine (rDcl_any _ _ u.decls[k] _ st' _ HW.out.own HV.out (by rw [HW.out.dp_eq, HD4.out]) (by have := HB4.out; have := HW.out.len; have h1 := Dcl.costL_take u.decls k hlt; have h2 := Dcl.costL_le u.decls (k + 1); omega)).mono ?_
      rintro e v2 ⟨rfl, t2, r2⟩
      have hn := RLoopDcl.next HW.out hlt r2
      clear r2
      go_wp2_with fail
      go_roundw
      case rel => exact ⟨k + 1, by omega, by go_num, hn⟩
      case measure => simp [intOf]; omega
    case neg =>
      rw [List.take_of_length_le (show u.decls.length ≤ k by omega)] at hw
      have R5 := Lib.hid hw; clear hw
      obtain ⟨w5, rfl⟩ : ∃ w5 : World, w5 = wr := ⟨_, rfl⟩
      have x3 := Below.sub R5.out.own.old _ _ K3.out
      go_wp2_with fail
      clear x2 hlt
      refine (rnum_any (w.alloc (.cells #[.string u.pkg, .slice A1 u.imports.length c1, .slice A2 u.decls.length c2, .slice A3 u.bodies.length c3] 30)) _ _ st' _ R5.out.own (show In64 (u.bodies.length : Int) from by unfold In64; omega) (by have := HB4.out; have := R5.out.len; omega)).mono ?_
      rintro e w6 ⟨rfl, st6, r6⟩
      have R6 := Lib.hid r6; clear r6 x3
      have hd6 : st6.dp = 0 := by rw [R6.out.dp_eq, R5.out.dp_eq, HD4.out]
      have HD6 := Lib.hid hd6; clear hd6
      have hb6 : st6.bs.length + (Fn.costL u.bodies + 8) ≤ 100000000000000 := by have := HB4.out; have := R5.out.len; have := R6.out.len; omega
      have HB6 := Lib.hid hb6; clear hb6
      have hs : RLoopFn (w.alloc (.cells #[.string u.pkg, .slice A1 u.imports.length c1, .slice A2 u.decls.length c2, .slice A3 u.bodies.length c3] 30)) (w.heap.size + 1) w6 st6 u.bodies 0 w6 := ⟨st6, (RWr.nothing R6.out.own).as (by simp [encFnL]) (by simp [Fn.costL]) (by simp)⟩
      obtain ⟨st5, hst5⟩ : ∃ st5, st5 = st' := ⟨_, rfl⟩
      subst hst5
      go_wp2_with fail
      go_loopw [6] (fun i wr => ∃ k : Nat, k ≤ u.bodies.length ∧ i = .int .i64 k ∧ RLoopFn (w.alloc (.cells #[.string u.pkg, .slice A1 u.imports.length c1, .slice A2 u.decls.length c2, .slice A3 u.bodies.length c3] 30)) (w.heap.size + 1) w6 st6 u.bodies k wr) (fun i _ => u.bodies.length - (intOf i).toNat)
      case atStart => exact ⟨0, Nat.zero_le _, rfl, hs⟩
      case round =>
        obtain ⟨k, hk, rfl, st', hw⟩ := hrel
        clear hs
        have x2 := Below.sub hw.own.old _ _ K3.out
        by_cases hlt : k < u.bodies.length
        case pos =>
          obtain ⟨b, o, hA, B4, d4, e0, e1, e2, e3, e4, q0, q2, q3, q4⟩ := Fn.at Q3.out.2.2.2 k hlt
          subst hA
          have HV := Lib.hid (Fn.shut (w := (w.alloc (.cells #[.string u.pkg, .slice A1 u.imports.length c1, .slice A2 u.decls.length c2, .slice (some ⟨b, o, none⟩) u.bodies.length c3] 30))) (t := u.bodies[k]) q0 q2 q3 q4)
          have hsub := Below.sub hw.own.old
          have f0 := hsub _ _ e0; have f1 := hsub _ _ e1; have f2 := hsub _ _ e2; have f3 := hsub _ _ e3; have f4 := hsub _ _ e4
          clear e0 e1 e2 e3 e4 q0 q2 q3 q4 hsub
          have HW := Lib.hid hw; clear hw
          go_wp2_with fail
          refine (rFn_any _ _ u.bodies[k] _ st' _ HW.out.own HV.out (by rw [HW.out.dp_eq, HD6.out]) (by have := HB6.out; have := HW.out.len; have h1 := Fn.costL_take u.bodies k hlt; have h2 := Fn.costL_le u.bodies (k + 1); omega)).mono ?_
          rintro e v2 ⟨rfl, t2, r2⟩
          have hn := RLoopFn.next HW.out hlt r2
          clear r2
          go_wp2_with fail
          go_roundw
          case rel => exact ⟨k + 1, by omega, by go_num, hn⟩
          case measure => simp [intOf]; omega
        case neg =>
          rw [List.take_of_length_le (show u.bodies.length ≤ k by omega)] at hw
          have R7 := Lib.hid hw; clear hw
          obtain ⟨w7, rfl⟩ : ∃ w7 : World, w7 = wr := ⟨_, rfl⟩
          have hall := R2.out.trans (R3.out.trans (R4.out.trans (R5.out.trans (R6.out.trans R7.out))))
          have hdeep : st'.deep = !shalU u := by
            rw [hall.deep_eq, ← shal_split]
            simp
          have hput := hall.put
          have HP := Lib.hid (fun (h : st'.deep = false) => (show Ideal st'.bs (encU u) from hput h _ ideal_mark))
          clear hall hput
          have hb7 : st'.bs.length + 8 ≤ 100000000000000 := by have := HB6.out; have := R7.out.len; omega
          obtain ⟨v7, hq7, ho7, hr7⟩ := R7.out.own.at_
          obtain ⟨A7, c7, rfl⟩ := own_slice ho7
          have y0 : w7.cell? ⟨w.heap.size + 1, 0, none⟩ = some (.slice A7 st'.bs.length c7) := (cell_at hq7 0).trans rfl
          have y1 : w7.cell? ⟨w.heap.size + 1, 1, none⟩ = some (.bool st'.deep) := (cell_at hq7 1).trans rfl
          have HRD := Lib.hid (rdB_own ho7).2
          have HB7 := Lib.hid hb7
          have HOLD := Lib.hid (HB0.out.trans (R7.out.own.old.mono HB0.out.size))
          clear hq7 ho7 hr7 hb7
          cases hs : shalU u
          case false =>
            have HZ := Lib.hid (show encodeP u = ([], 3) by rw [encodeP, if_pos hs])
            rw [hs] at hdeep
            rw [show st'.deep = true from hdeep] at y1
            clear hdeep hs
            go_wp2_with fail
            refine bodyPost_ret2 rfl rfl ⟨none, 0, ?_, ?_, HOLD.out⟩
            · rw [HZ.out]; rfl
            · rw [HZ.out]; exact World.ownsRow_nil _ _ _ _
          case true =>
            rw [hs] at hdeep
            have HS := Lib.hid hs
            have HDD := Lib.hid (show st'.deep = false from hdeep)
            rw [HDD.out] at y1
            clear hdeep hs
            go_wp2_with fail
            refine (rsum_any w7 st'.bs A7 c7 (by have := HB7.out; unfold Reach; omega) HRD.out).mono ?_
            rintro e w8 ⟨rfl, rfl⟩
            go_wp2_with fail
            refine (rnum_any _ _ _ st' _ R7.out.own (In64_wrap _) HB7.out).mono ?_
            rintro e w9 ⟨rfl, st9, r9⟩
            have HE := Lib.hid (rend HDD.out HS.out (HP.out HDD.out) r9)
            have hb9 : st9.bs.length ≤ 100000000000000 := by have := HB7.out; have := r9.len; omega
            have HB9 := Lib.hid hb9
            have R9 := Lib.hid r9; clear r9 y0 y1 hb9
            go_wp2_with fail
            refine (full_any _ _ _ st9 R9.out.own HB9.out).mono ?_
            rintro e w10 ⟨rfl, rfl⟩
            obtain ⟨v9, hq9, ho9, hr9⟩ := R9.out.own.at_
            obtain ⟨A9, c9, rfl⟩ := own_slice ho9
            have y0 : w9.cell? ⟨w.heap.size + 1, 0, none⟩ = some (.slice A9 st9.bs.length c9) := (cell_at hq9 0).trans rfl
            have HO9 := Lib.hid ho9
            have HOLD9 := Lib.hid (HB0.out.trans (R9.out.own.old.mono HB0.out.size))
            clear hq9 ho9 hr9
            by_cases hf : 262144 < st9.bs.length
            · rw [decide_eq_true hf]
              have HZ := Lib.hid (HE.out.1 hf)
              clear hf
              go_wp2_with fail
              refine bodyPost_ret2 rfl rfl ⟨none, 0, ?_, ?_, HOLD9.out⟩
              · rw [HZ.out]; rfl
              · rw [HZ.out]; exact World.ownsRow_nil _ _ _ _
            · rw [decide_eq_false hf]
              have HZ := Lib.hid (HE.out.2 hf)
              clear hf
              go_wp2_with fail
              refine bodyPost_ret2 rfl rfl ⟨A9, c9, ?_, ?_, HOLD9.out⟩
              · rw [HZ.out]; rfl
              · rw [HZ.out]; exact own_base HO9.out HB0.out.size
end Go.Proofs.Ytghnaaahkbnhlaa
