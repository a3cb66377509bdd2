/-
  How many parts there are, and the walks of mortiseref7.Count, mortiseref8.Exprs, Stats, Bulk. The conditions: what is counted reads; the most is from nought to a million.
-/
import Derived.Test.YtiecbgclkdlpkaaAns
import Derived.Test.YtiecbgclkdlpkaaCut
import Derived.StillTailTactics
import Derived.Test.YtiecbgclkdlpkaaHeld
namespace Go.Proofs.Ytiecbgclkdlpkaa
open Go.RowKit
set_option linter.unusedVariables false
set_option linter.unusedSimpArgs false
attribute [local irreducible] wpStill wpOrd

mutual
def Ty.sz : Ty → Nat
  | .mk _ _ _ xs ys => 1 + Ty.szL xs + Ty.szL ys
def Ty.szL : List Ty → Nat
  | [] => 0
  | t :: r => Ty.sz t + Ty.szL r
end
theorem Ty.sz_eq (t : Ty) : t.sz = 1 + Ty.szL t.args + Ty.szL t.res := by cases t; rfl
mutual
def Ex.sz : Ex → Nat
  | .mk _ _ _ ks => 1 + Ex.szL ks
def Ex.szL : List Ex → Nat
  | [] => 0
  | t :: r => Ex.sz t + Ex.szL r
end
theorem Ex.sz_eq (t : Ex) : t.sz = 1 + Ex.szL t.kids := by cases t; rfl
mutual
def St.sz : St → Nat
  | .mk _ _ es b c => 1 + Ex.szL es + St.szL b + St.szL c
def St.szL : List St → Nat
  | [] => 0
  | t :: r => St.sz t + St.szL r
end
theorem St.sz_eq (t : St) : t.sz = 1 + Ex.szL t.exprs + St.szL t.body + St.szL t.els := by cases t; rfl
def Fld.sz (t : Fld) : Nat := t.type.sz
def Fld.szL : List Fld → Nat
  | [] => 0
  | t :: r => t.sz + Fld.szL r
def Dcl.sz (t : Dcl) : Nat := t.type.sz + t.fields.length + Fld.szL t.fields
def Dcl.szL : List Dcl → Nat
  | [] => 0
  | t :: r => t.sz + Dcl.szL r
def Fn.sz (t : Fn) : Nat := St.szL t.body
def Fn.szL : List Fn → Nat
  | [] => 0
  | t :: r => t.sz + Fn.szL r
def Un.sz (u : Un) : Nat := u.imports.length + u.decls.length + u.bodies.length + Dcl.szL u.decls + Fn.szL u.bodies

/-- A count r of s parts, given up beyond so many. -/
def Cnt (r : Int) (s : Nat) (most : Int) : Prop := (r ≤ most → r = s) ∧ (most < r → most < s)
/-- A count answers. -/
def CntA (w : World) (s : Nat) (most : Int) (b : Int) (e : Ending) (w' : World) : Prop := ∃ r : Int, e = .returned (.int .i64 r) ∧ 0 ≤ r ∧ r ≤ most + b ∧ Cnt r s most ∧ Below w.heap.size w w'

theorem Ty.szL_take : ∀ (l : List Ty) (k : Nat) (h : k < l.length), Ty.szL (l.take (k + 1)) = Ty.szL (l.take k) + Ty.sz l[k]
  | t :: r, 0, _ => by simp [Ty.szL]
  | t :: r, k + 1, h => by
    simp only [List.take_succ_cons, Ty.szL, List.getElem_cons_succ]
    rw [Ty.szL_take r k (by simpa using h)]
    omega
  | [], k, h => absurd h (by simp)
theorem Ty.szL_le : ∀ (l : List Ty) (k : Nat), Ty.szL (l.take k) ≤ Ty.szL l
  | [], k => by simp [Ty.szL]
  | t :: r, 0 => by simp [Ty.szL]
  | t :: r, k + 1 => by
    simp only [List.take_succ_cons, Ty.szL]
    have := Ty.szL_le r k
    omega
theorem Ty.szL_all (l : List Ty) : Ty.szL (l.take l.length) = Ty.szL l := by rw [List.take_length]
theorem Ex.szL_take : ∀ (l : List Ex) (k : Nat) (h : k < l.length), Ex.szL (l.take (k + 1)) = Ex.szL (l.take k) + Ex.sz l[k]
  | t :: r, 0, _ => by simp [Ex.szL]
  | t :: r, k + 1, h => by
    simp only [List.take_succ_cons, Ex.szL, List.getElem_cons_succ]
    rw [Ex.szL_take r k (by simpa using h)]
    omega
  | [], k, h => absurd h (by simp)
theorem Ex.szL_le : ∀ (l : List Ex) (k : Nat), Ex.szL (l.take k) ≤ Ex.szL l
  | [], k => by simp [Ex.szL]
  | t :: r, 0 => by simp [Ex.szL]
  | t :: r, k + 1 => by
    simp only [List.take_succ_cons, Ex.szL]
    have := Ex.szL_le r k
    omega
theorem Ex.szL_all (l : List Ex) : Ex.szL (l.take l.length) = Ex.szL l := by rw [List.take_length]
theorem St.szL_take : ∀ (l : List St) (k : Nat) (h : k < l.length), St.szL (l.take (k + 1)) = St.szL (l.take k) + St.sz l[k]
  | t :: r, 0, _ => by simp [St.szL]
  | t :: r, k + 1, h => by
    simp only [List.take_succ_cons, St.szL, List.getElem_cons_succ]
    rw [St.szL_take r k (by simpa using h)]
    omega
  | [], k, h => absurd h (by simp)
theorem St.szL_le : ∀ (l : List St) (k : Nat), St.szL (l.take k) ≤ St.szL l
  | [], k => by simp [St.szL]
  | t :: r, 0 => by simp [St.szL]
  | t :: r, k + 1 => by
    simp only [List.take_succ_cons, St.szL]
    have := St.szL_le r k
    omega
theorem St.szL_all (l : List St) : St.szL (l.take l.length) = St.szL l := by rw [List.take_length]
theorem Fld.szL_take : ∀ (l : List Fld) (k : Nat) (h : k < l.length), Fld.szL (l.take (k + 1)) = Fld.szL (l.take k) + Fld.sz l[k]
  | t :: r, 0, _ => by simp [Fld.szL]
  | t :: r, k + 1, h => by
    simp only [List.take_succ_cons, Fld.szL, List.getElem_cons_succ]
    rw [Fld.szL_take r k (by simpa using h)]
    omega
  | [], k, h => absurd h (by simp)
theorem Fld.szL_le : ∀ (l : List Fld) (k : Nat), Fld.szL (l.take k) ≤ Fld.szL l
  | [], k => by simp [Fld.szL]
  | t :: r, 0 => by simp [Fld.szL]
  | t :: r, k + 1 => by
    simp only [List.take_succ_cons, Fld.szL]
    have := Fld.szL_le r k
    omega
theorem Fld.szL_all (l : List Fld) : Fld.szL (l.take l.length) = Fld.szL l := by rw [List.take_length]
theorem Dcl.szL_take : ∀ (l : List Dcl) (k : Nat) (h : k < l.length), Dcl.szL (l.take (k + 1)) = Dcl.szL (l.take k) + Dcl.sz l[k]
  | t :: r, 0, _ => by simp [Dcl.szL]
  | t :: r, k + 1, h => by
    simp only [List.take_succ_cons, Dcl.szL, List.getElem_cons_succ]
    rw [Dcl.szL_take r k (by simpa using h)]
    omega
  | [], k, h => absurd h (by simp)
theorem Dcl.szL_le : ∀ (l : List Dcl) (k : Nat), Dcl.szL (l.take k) ≤ Dcl.szL l
  | [], k => by simp [Dcl.szL]
  | t :: r, 0 => by simp [Dcl.szL]
  | t :: r, k + 1 => by
    simp only [List.take_succ_cons, Dcl.szL]
    have := Dcl.szL_le r k
    omega
theorem Dcl.szL_all (l : List Dcl) : Dcl.szL (l.take l.length) = Dcl.szL l := by rw [List.take_length]
theorem Fn.szL_take : ∀ (l : List Fn) (k : Nat) (h : k < l.length), Fn.szL (l.take (k + 1)) = Fn.szL (l.take k) + Fn.sz l[k]
  | t :: r, 0, _ => by simp [Fn.szL]
  | t :: r, k + 1, h => by
    simp only [List.take_succ_cons, Fn.szL, List.getElem_cons_succ]
    rw [Fn.szL_take r k (by simpa using h)]
    omega
  | [], k, h => absurd h (by simp)
theorem Fn.szL_le : ∀ (l : List Fn) (k : Nat), Fn.szL (l.take k) ≤ Fn.szL l
  | [], k => by simp [Fn.szL]
  | t :: r, 0 => by simp [Fn.szL]
  | t :: r, k + 1 => by
    simp only [List.take_succ_cons, Fn.szL]
    have := Fn.szL_le r k
    omega
theorem Fn.szL_all (l : List Fn) : Fn.szL (l.take l.length) = Fn.szL l := by rw [List.take_length]

def CntTy (t : Ty) : Prop := ∀ (w : World) (vs : List Value) (m : Int), Vals w t.d vs → 0 ≤ m → m ≤ 1000000 → Calls Try.prog 38 #[.agg vs.toArray, .int .i64 m] w (CntA w t.sz m 1)
def CntExL (l : List Ex) : Prop := ∀ (w : World) (A : Option Addr) (c : Nat) (m : Int), SL w 4 (Ex.ds l) l.length A c → 0 ≤ m → m ≤ 1000000 → Calls Try.prog 73 #[.slice A l.length c, .int .i64 m] w (CntA w (Ex.szL l) m 1)
def CntStL (l : List St) : Prop := ∀ (w : World) (A : Option Addr) (c : Nat) (m : Int), SL w 5 (St.ds l) l.length A c → 0 ≤ m → m ≤ 1000000 → Calls Try.prog 65 #[.slice A l.length c, .int .i64 m] w (CntA w (St.szL l) m 2)
/-- A loop that counts: k rounds are behind, n is counted, which is s parts. -/
def LoopC (W : World) (s : Nat) (m b : Int) (n : Int) (wr : World) : Prop := 0 ≤ n ∧ n ≤ m + b ∧ Cnt n s m ∧ Below W.heap.size W wr

set_option maxRecDepth 100000 in
set_option maxHeartbeats 1600000 in
theorem exprs_any (l : List Ex) (o_e : ∀ t ∈ l, CntExL t.kids) : CntExL l := by
  intro w A c m hl hm0 hm1
  have hr := hl.2.2.1
  unfold Reach at hr
  have HL := Lib.hid hl; have O_e := Lib.hid o_e; clear hl o_e
  go_enter Try.func73, Try.ntmps73
  go_wp2_with fail
  go_loopw [5, 6] (fun n i wr => ∃ (k : Nat) (s : Int), k ≤ l.length ∧ i = .int .i64 k ∧ n = .int .i64 s ∧ LoopC w (Ex.szL (l.take k)) m 1 s wr) (fun n i _ => l.length - (intOf i).toNat)
  case atStart => exact ⟨0, 0, Nat.zero_le _, rfl, rfl, Int.le_refl _, by omega, ⟨fun _ => rfl, fun h => absurd h (by omega)⟩, Below.refl _ _⟩
  case round =>
    obtain ⟨k, s, hk, rfl, rfl, h0, h1, hc, hb⟩ := hrel
    have HB := Lib.hid hb; have HC := Lib.hid hc; clear hb hc
    by_cases hlt : k < l.length
    · by_cases hle : s ≤ m
      · obtain ⟨b, o, hA, A3, c3, e0, e1, e2, e3, q0, q1, q2, q3⟩ := Ex.at HL.out.2.2.2 k hlt
        subst hA
        have f3 := Below.sub HB.out _ _ e3
        have Q3 := Lib.hid q3
        clear e0 e1 e2 e3 q0 q1 q2 q3
        have HS := Lib.hid (Ex.szL_take l k hlt)
        have HK := Lib.hid (List.getElem_mem hlt)
        have HZ := Lib.hid (Ex.sz_eq l[k])
        by_cases hle2 : s + 1 ≤ m
        · go_wp2_with fail
          refine (O_e.out _ HK.out _ A3 c3 (m - (s + 1)) (Q3.out.sub (Below.sub HB.out)) (by omega) (by omega)).mono ?_
          rintro e w1 ⟨r, rfl, hr0, hr1, hr2, hb1⟩
          have HR := Lib.hid hr2
          have B1 := Lib.hid (HB.out.trans (hb1.mono HB.out.size)); clear hb1 hr2
          go_wp2_with fail
          go_roundw
          case rel =>
            refine ⟨k + 1, s + 1 + r, by omega, by go_num, by go_num, by omega, by omega, ?_, B1.out⟩
            have x1 := HC.out; have x2 := HR.out; have x3 := HS.out; have x4 := HZ.out
            unfold Cnt at *
            rw [x3, x4]
            omega
          case measure => simp [intOf]; omega
        · go_wp2_with fail
          go_roundw
          case rel =>
            refine ⟨k + 1, s + 1, by omega, by go_num, by go_num, by omega, by omega, ?_, HB.out⟩
            have x1 := HC.out; have x3 := HS.out; have x4 := HZ.out
            unfold Cnt at *
            rw [x3, x4]
            omega
          case measure => simp [intOf]; omega
      · have HT := Lib.hid (Ex.szL_le l k)
        go_wp2_with fail
        refine bodyPost_ret (results_tmp rfl _ _ _) rfl ⟨s, rfl, h0, h1, ?_, HB.out⟩
        have x1 := HC.out; have x2 := HT.out
        unfold Cnt at *
        omega
    · have HT := Lib.hid (Ex.szL_all l)
      obtain rfl : k = l.length := by omega
      go_wp2_with fail
      refine bodyPost_ret (results_tmp rfl _ _ _) rfl ⟨s, rfl, h0, h1, ?_, HB.out⟩
      have x1 := HC.out; have x2 := HT.out
      rw [x2] at x1
      exact x1
theorem cntEx_size : ∀ (n : Nat) (l : List Ex), SizeOf.sizeOf l < n → CntExL l
  | 0, _, h => absurd h (Nat.not_lt_zero _)
  | n + 1, l, h => exprs_any l (fun t ht => cntEx_size n t.kids (by
      have := List.sizeOf_lt_of_mem ht
      cases t
      simp only [Ex.mk.sizeOf_spec, Ex.kids] at *
      omega))
theorem cntExL (l : List Ex) : CntExL l := cntEx_size _ l (Nat.lt_succ_self _)

set_option maxRecDepth 100000 in
set_option maxHeartbeats 1600000 in
theorem stats_any (l : List St) (o_b : ∀ t ∈ l, CntStL t.body) (o_c : ∀ t ∈ l, CntStL t.els) : CntStL l := by
  intro w A c m hl hm0 hm1
  have hr := hl.2.2.1
  unfold Reach at hr
  have HL := Lib.hid hl; have O_b := Lib.hid o_b; have O_c := Lib.hid o_c; clear hl o_b o_c
  go_enter Try.func65, Try.ntmps65
  go_wp2_with fail
  go_loopw [5, 6] (fun n i wr => ∃ (k : Nat) (s : Int), k ≤ l.length ∧ i = .int .i64 k ∧ n = .int .i64 s ∧ LoopC w (St.szL (l.take k)) m 2 s wr) (fun n i _ => l.length - (intOf i).toNat)
  case atStart => exact ⟨0, 0, Nat.zero_le _, rfl, rfl, Int.le_refl _, by omega, ⟨fun _ => rfl, fun h => absurd h (by omega)⟩, Below.refl _ _⟩
  case round =>
    obtain ⟨k, s, hk, rfl, rfl, h0, h1, hc, hb⟩ := hrel
    have HB := Lib.hid hb; have HC := Lib.hid hc; clear hb hc
    by_cases hlt : k < l.length
    · by_cases hle : s ≤ m
      · obtain ⟨b, o, hA, A2, c2, A3, c3, A4, c4, e0, e1, e2, e3, e4, q0, q1, q2, q3, q4⟩ := St.at HL.out.2.2.2 k hlt
        subst hA
        have f2 := Below.sub HB.out _ _ e2
        have f3 := Below.sub HB.out _ _ e3
        have f4 := Below.sub HB.out _ _ e4
        have Q2 := Lib.hid q2
        have Q3 := Lib.hid q3
        have Q4 := Lib.hid q4
        clear e0 e1 e2 e3 e4 q0 q1 q2 q3 q4
        have HS := Lib.hid (St.szL_take l k hlt)
        have HK := Lib.hid (List.getElem_mem hlt)
        have HZ := Lib.hid (St.sz_eq l[k])
        go_wp2_with fail
        refine (cntExL _ _ A2 c2 (m - s) (Q2.out.sub (Below.sub HB.out)) (by omega) (by omega)).mono ?_
        rintro e w1 ⟨r1, rfl, hr1a, hr1b, hr1c, hb1⟩
        have R1 := Lib.hid hr1c
        have B1 := Lib.hid (HB.out.trans (hb1.mono HB.out.size)); clear hr1c
        have d3 := Below.sub hb1 _ _ f3; have d4 := Below.sub hb1 _ _ f4; clear hb1 f2 f3 f4
        by_cases hle2 : s + 1 + r1 ≤ m
        case neg =>
          go_wp2_with fail
          go_roundw
          case rel =>
            refine ⟨k + 1, s + 1 + r1, by omega, by go_num, by go_num, by omega, by omega, ?_, B1.out⟩
            have x1 := HC.out; have x3 := HS.out; have x4 := HZ.out; have y1 := R1.out
            unfold Cnt at *
            rw [x3, x4]
            omega
          case measure => simp [intOf]; omega
        go_wp2_with fail
        refine (O_b.out _ HK.out _ A3 c3 (m - (s + 1 + r1)) (Q3.out.sub (Below.sub B1.out)) (by omega) (by omega)).mono ?_
        rintro e w2 ⟨r2, rfl, hr2a, hr2b, hr2c, hb2⟩
        have R2 := Lib.hid hr2c
        have B2 := Lib.hid (B1.out.trans (hb2.mono B1.out.size)); clear hr2c
        have g4 := Below.sub hb2 _ _ d4; clear hb2 d3 d4
        by_cases hle3 : s + 1 + r1 + r2 ≤ m
        case neg =>
          go_wp2_with fail
          go_roundw
          case rel =>
            refine ⟨k + 1, s + 1 + r1 + r2, by omega, by go_num, by go_num, by omega, by omega, ?_, B2.out⟩
            have x1 := HC.out; have x3 := HS.out; have x4 := HZ.out; have y1 := R1.out; have y2 := R2.out
            unfold Cnt at *
            rw [x3, x4]
            omega
          case measure => simp [intOf]; omega
        go_wp2_with fail
        refine (O_c.out _ HK.out _ A4 c4 (m - (s + 1 + r1 + r2)) (Q4.out.sub (Below.sub B2.out)) (by omega) (by omega)).mono ?_
        rintro e w3 ⟨r3, rfl, hr3a, hr3b, hr3c, hb3⟩
        have R3 := Lib.hid hr3c
        have B3 := Lib.hid (B2.out.trans (hb3.mono B2.out.size)); clear hr3c
        clear hb3
        go_wp2_with fail
        go_roundw
        case rel =>
          refine ⟨k + 1, s + 1 + r1 + r2 + r3, by omega, by go_num, by go_num, by omega, by omega, ?_, B3.out⟩
          have x1 := HC.out; have x3 := HS.out; have x4 := HZ.out; have y1 := R1.out; have y2 := R2.out; have y3 := R3.out
          unfold Cnt at *
          rw [x3, x4]
          omega
        case measure => simp [intOf]; omega
      · have HT := Lib.hid (St.szL_le l k)
        go_wp2_with fail
        refine bodyPost_ret (results_tmp rfl _ _ _) rfl ⟨s, rfl, h0, h1, ?_, HB.out⟩
        have x1 := HC.out; have x2 := HT.out
        unfold Cnt at *
        omega
    · have HT := Lib.hid (St.szL_all l)
      obtain rfl : k = l.length := by omega
      go_wp2_with fail
      refine bodyPost_ret (results_tmp rfl _ _ _) rfl ⟨s, rfl, h0, h1, ?_, HB.out⟩
      have x1 := HC.out; have x2 := HT.out
      rw [x2] at x1
      exact x1
theorem cntSt_size : ∀ (n : Nat) (l : List St), SizeOf.sizeOf l < n → CntStL l
  | 0, _, h => absurd h (Nat.not_lt_zero _)
  | n + 1, l, h => stats_any l (fun t ht => cntSt_size n t.body (by
      have := List.sizeOf_lt_of_mem ht
      cases t
      simp only [St.mk.sizeOf_spec, St.body] at *
      omega)) (fun t ht => cntSt_size n t.els (by
      have := List.sizeOf_lt_of_mem ht
      cases t
      simp only [St.mk.sizeOf_spec, St.els] at *
      omega))
theorem cntStL (l : List St) : CntStL l := cntSt_size _ l (Nat.lt_succ_self _)

set_option maxRecDepth 100000 in
set_option maxHeartbeats 1600000 in
theorem count_any (t : Ty) (o_a : ∀ u ∈ t.args, CntTy u) (o_r : ∀ u ∈ t.res, CntTy u) : CntTy t := by
  intro w vs m hv hm0 hm1
  obtain ⟨A3, c3, A4, c4, rfl, q0, q1, q2, q3, q4⟩ := Ty.opn hv
  have hr := q3.2.2.1
  have hr' := q4.2.2.1
  unfold Reach at hr hr'
  have HA := Lib.hid (alloc_at w (.cells #[.int .i64 t.kind, .string t.pkg, .string t.name, .slice A3 t.args.length c3, .slice A4 t.res.length c4] 26))
  have HW := Lib.hid ((Below.refl _ w).alloc (Nat.le_refl _) (.cells #[.int .i64 t.kind, .string t.pkg, .string t.name, .slice A3 t.args.length c3, .slice A4 t.res.length c4] 26) : Below w.heap.size w (w.alloc (.cells #[.int .i64 t.kind, .string t.pkg, .string t.name, .slice A3 t.args.length c3, .slice A4 t.res.length c4] 26)))
  have Q3 := Lib.hid q3; have Q4 := Lib.hid q4; have O_a := Lib.hid o_a; have O_r := Lib.hid o_r
  have HZ := Lib.hid (Ty.sz_eq t)
  clear hv q0 q1 q2 q3 q4 o_a o_r
  go_enter Try.func38, Try.ntmps38
  go_wp2_with fail
  go_loopw [5, 6] (fun n i wr => ∃ (k : Nat) (s : Int), k ≤ t.args.length ∧ i = .int .i64 k ∧ n = .int .i64 s ∧ LoopC (w.alloc (.cells #[.int .i64 t.kind, .string t.pkg, .string t.name, .slice A3 t.args.length c3, .slice A4 t.res.length c4] 26)) (1 + Ty.szL (t.args.take k)) m 1 s wr) (fun n i _ => t.args.length - (intOf i).toNat)
  case atStart => exact ⟨0, 1, Nat.zero_le _, rfl, rfl, by omega, by omega, ⟨fun _ => rfl, fun h => by simp [Ty.szL]; omega⟩, Below.refl _ _⟩
  case round =>
    obtain ⟨k, s, hk, rfl, rfl, h0, h1, hc, hb⟩ := hrel
    have x1 := Below.sub hb _ _ ((cell_at HA.out 3).trans rfl : _ = some (.slice A3 t.args.length c3))
    have HB := Lib.hid hb; have HC := Lib.hid hc; clear hb hc
    by_cases hlt : k < t.args.length
    case pos =>
      by_cases hle : s ≤ m
      case pos =>
        obtain ⟨b, o, hA, B3, d3, B4, d4, e0, e1, e2, e3, e4, q0, q1, q2, q3, q4⟩ := Ty.at Q3.out.2.2.2 k hlt
        subst hA
        have hsub := Below.sub (HW.out.trans (HB.out.mono HW.out.size))
        have HV := Lib.hid ((Ty.shut (w := w) (t := t.args[k]) q0 q1 q2 q3 q4).sub hsub)
        have f0 := hsub _ _ e0; have f1 := hsub _ _ e1; have f2 := hsub _ _ e2; have f3 := hsub _ _ e3; have f4 := hsub _ _ e4
        clear e0 e1 e2 e3 e4 q0 q1 q2 q3 q4 hsub
        have HS := Lib.hid (Ty.szL_take t.args k hlt)
        have HK := Lib.hid (List.getElem_mem hlt)
        go_wp2_with fail
        refine (O_a.out _ HK.out _ _ (m - s) HV.out (by omega) (by omega)).mono ?_
        rintro e w1 ⟨r, rfl, hr0, hr1, hr2, hb1⟩
        have HR := Lib.hid hr2
        have B1 := Lib.hid (HB.out.trans (hb1.mono HB.out.size)); clear hb1 hr2
        go_wp2_with fail
        go_roundw
        case rel =>
          refine ⟨k + 1, s + r, by omega, by go_num, by go_num, by omega, by omega, ?_, B1.out⟩
          have x1 := HC.out; have x2 := HR.out; have x3 := HS.out
          unfold Cnt at *
          rw [x3]
          omega
        case measure => simp [intOf]; omega
      case neg =>
        have HT := Lib.hid (Ty.szL_le t.args k)
        have HC0 : Hid (Cnt s (1 + Ty.szL t.args + Ty.szL (t.res.take 0)) m) := Lib.hid (by
          have x1 := HC.out; have x2 := HT.out
          rw [List.take_zero, show Ty.szL [] = 0 from rfl]
          unfold Cnt at *
          omega)
        go_wp2_with fail
        have h00 := h0; have h01 := h1
        obtain ⟨s0, rfl⟩ : ∃ s0 : Int, s0 = s := ⟨_, rfl⟩
        obtain ⟨wo, rfl⟩ : ∃ wo : World, wo = wr := ⟨_, rfl⟩
        have HB0 := HB
        clear HC HB HT h0 h1 x1 hlt hle
        go_loopw [5, 7] (fun n i wr => ∃ (k : Nat) (s : Int), k ≤ t.res.length ∧ i = .int .i64 k ∧ n = .int .i64 s ∧ LoopC (w.alloc (.cells #[.int .i64 t.kind, .string t.pkg, .string t.name, .slice A3 t.args.length c3, .slice A4 t.res.length c4] 26)) (1 + Ty.szL t.args + Ty.szL (t.res.take k)) m 1 s wr) (fun n i _ => t.res.length - (intOf i).toNat)
        case atStart => exact ⟨0, s0, Nat.zero_le _, rfl, rfl, h00, h01, HC0.out, HB0.out⟩
        case round =>
          obtain ⟨k, s, hk, rfl, rfl, h0, h1, hc, hb⟩ := hrel
          have x1 := Below.sub hb _ _ ((cell_at HA.out 4).trans rfl : _ = some (.slice A4 t.res.length c4))
          have HB := Lib.hid hb; have HC := Lib.hid hc; clear hb hc
          by_cases hlt : k < t.res.length
          case pos =>
            by_cases hle : s ≤ m
            case pos =>
              obtain ⟨b, o, hA, B3, d3, B4, d4, e0, e1, e2, e3, e4, q0, q1, q2, q3, q4⟩ := Ty.at Q4.out.2.2.2 k hlt
              subst hA
              have hsub := Below.sub (HW.out.trans (HB.out.mono HW.out.size))
              have HV := Lib.hid ((Ty.shut (w := w) (t := t.res[k]) q0 q1 q2 q3 q4).sub hsub)
              have f0 := hsub _ _ e0; have f1 := hsub _ _ e1; have f2 := hsub _ _ e2; have f3 := hsub _ _ e3; have f4 := hsub _ _ e4
              clear e0 e1 e2 e3 e4 q0 q1 q2 q3 q4 hsub
              have HS := Lib.hid (Ty.szL_take t.res k hlt)
              have HK := Lib.hid (List.getElem_mem hlt)
              go_wp2_with fail
              refine (O_r.out _ HK.out _ _ (m - s) HV.out (by omega) (by omega)).mono ?_
              rintro e w1 ⟨r, rfl, hr0, hr1, hr2, hb1⟩
              have HR := Lib.hid hr2
              have B1 := Lib.hid (HB.out.trans (hb1.mono HB.out.size)); clear hb1 hr2
              go_wp2_with fail
              go_roundw
              case rel =>
                refine ⟨k + 1, s + r, by omega, by go_num, by go_num, by omega, by omega, ?_, B1.out⟩
                have x1 := HC.out; have x2 := HR.out; have x3 := HS.out
                unfold Cnt at *
                rw [x3]
                omega
              case measure => simp [intOf]; omega
            case neg =>
              have HT := Lib.hid (Ty.szL_le t.res k)
              go_wp2_with fail
              refine bodyPost_ret (results_tmp rfl _ _ _) rfl ⟨s, rfl, h0, h1, ?_, HW.out.trans (HB.out.mono HW.out.size)⟩
              have x1 := HC.out; have x2 := HT.out; have x3 := HZ.out
              unfold Cnt at *
              rw [x3]
              omega
          case neg =>
            have HT := Lib.hid (Ty.szL_all t.res)
            obtain rfl : k = t.res.length := by omega
            go_wp2_with fail
            refine bodyPost_ret (results_tmp rfl _ _ _) rfl ⟨s, rfl, h0, h1, ?_, HW.out.trans (HB.out.mono HW.out.size)⟩
            have x1 := HC.out; have x2 := HT.out; have x3 := HZ.out
            unfold Cnt at *
            rw [x3]
            omega
    case neg =>
      have HT := Lib.hid (Ty.szL_all t.args)
      obtain rfl : k = t.args.length := by omega
      have HC0 : Hid (Cnt s (1 + Ty.szL t.args + Ty.szL (t.res.take 0)) m) := Lib.hid (by
        have x1 := HC.out; have x2 := HT.out
        rw [List.take_zero, show Ty.szL [] = 0 from rfl]
        unfold Cnt at *
        omega)
      go_wp2_with fail
      have h00 := h0; have h01 := h1
      obtain ⟨s0, rfl⟩ : ∃ s0 : Int, s0 = s := ⟨_, rfl⟩
      obtain ⟨wo, rfl⟩ : ∃ wo : World, wo = wr := ⟨_, rfl⟩
      have HB0 := HB
      clear HC HB HT h0 h1 x1 hlt
      go_loopw [5, 7] (fun n i wr => ∃ (k : Nat) (s : Int), k ≤ t.res.length ∧ i = .int .i64 k ∧ n = .int .i64 s ∧ LoopC (w.alloc (.cells #[.int .i64 t.kind, .string t.pkg, .string t.name, .slice A3 t.args.length c3, .slice A4 t.res.length c4] 26)) (1 + Ty.szL t.args + Ty.szL (t.res.take k)) m 1 s wr) (fun n i _ => t.res.length - (intOf i).toNat)
      case atStart => exact ⟨0, s0, Nat.zero_le _, rfl, rfl, h00, h01, HC0.out, HB0.out⟩
      case round =>
        obtain ⟨k, s, hk, rfl, rfl, h0, h1, hc, hb⟩ := hrel
        have x1 := Below.sub hb _ _ ((cell_at HA.out 4).trans rfl : _ = some (.slice A4 t.res.length c4))
        have HB := Lib.hid hb; have HC := Lib.hid hc; clear hb hc
        by_cases hlt : k < t.res.length
        case pos =>
          by_cases hle : s ≤ m
          case pos =>
            obtain ⟨b, o, hA, B3, d3, B4, d4, e0, e1, e2, e3, e4, q0, q1, q2, q3, q4⟩ := Ty.at Q4.out.2.2.2 k hlt
            subst hA
            have hsub := Below.sub (HW.out.trans (HB.out.mono HW.out.size))
            have HV := Lib.hid ((Ty.shut (w := w) (t := t.res[k]) q0 q1 q2 q3 q4).sub hsub)
            have f0 := hsub _ _ e0; have f1 := hsub _ _ e1; have f2 := hsub _ _ e2; have f3 := hsub _ _ e3; have f4 := hsub _ _ e4
            clear e0 e1 e2 e3 e4 q0 q1 q2 q3 q4 hsub
            have HS := Lib.hid (Ty.szL_take t.res k hlt)
            have HK := Lib.hid (List.getElem_mem hlt)
            go_wp2_with fail
            refine (O_r.out _ HK.out _ _ (m - s) HV.out (by omega) (by omega)).mono ?_
            rintro e w1 ⟨r, rfl, hr0, hr1, hr2, hb1⟩
            have HR := Lib.hid hr2
            have B1 := Lib.hid (HB.out.trans (hb1.mono HB.out.size)); clear hb1 hr2
            go_wp2_with fail
            go_roundw
            case rel =>
              refine ⟨k + 1, s + r, by omega, by go_num, by go_num, by omega, by omega, ?_, B1.out⟩
              have x1 := HC.out; have x2 := HR.out; have x3 := HS.out
              unfold Cnt at *
              rw [x3]
              omega
            case measure => simp [intOf]; omega
          case neg =>
            have HT := Lib.hid (Ty.szL_le t.res k)
            go_wp2_with fail
            refine bodyPost_ret (results_tmp rfl _ _ _) rfl ⟨s, rfl, h0, h1, ?_, HW.out.trans (HB.out.mono HW.out.size)⟩
            have x1 := HC.out; have x2 := HT.out; have x3 := HZ.out
            unfold Cnt at *
            rw [x3]
            omega
        case neg =>
          have HT := Lib.hid (Ty.szL_all t.res)
          obtain rfl : k = t.res.length := by omega
          go_wp2_with fail
          refine bodyPost_ret (results_tmp rfl _ _ _) rfl ⟨s, rfl, h0, h1, ?_, HW.out.trans (HB.out.mono HW.out.size)⟩
          have x1 := HC.out; have x2 := HT.out; have x3 := HZ.out
          unfold Cnt at *
          rw [x3]
          omega
theorem cntTy_size : ∀ (n : Nat) (t : Ty), SizeOf.sizeOf t < n → CntTy t
  | 0, _, h => absurd h (Nat.not_lt_zero _)
  | n + 1, .mk k p s xs ys, h => by
    simp only [Ty.mk.sizeOf_spec] at h
    exact count_any _ (fun t ht => cntTy_size n t (by have := List.sizeOf_lt_of_mem ht; simp only [Ty.args] at this; omega))
      (fun t ht => cntTy_size n t (by have := List.sizeOf_lt_of_mem ht; simp only [Ty.res] at this; omega))
theorem cntTy (t : Ty) : CntTy t := cntTy_size _ t (Nat.lt_succ_self _)

/-- What holds since. -/
def Since (w0 w : World) : Prop := Below w0.heap.size w0 w
theorem Since.cell {w0 w : World} (h : Since w0 w) {a : Addr} {v : Value} (e : w0.cell? a = some v) : w.cell? a = some v := Below.sub h _ _ e
theorem Since.next {w0 w w1 : World} (h : Since w0 w) (h1 : Below w.heap.size w w1) : Since w0 w1 := Below.trans h (h1.mono (Below.size h))
def CntU (u : Un) : Prop := ∀ (w : World) (vs : List Value) (m : Int), Vals w u.d vs → 0 ≤ m → m ≤ 1000000 → Calls Try.prog 37 #[.agg vs.toArray, .int .i64 m] w (CntA w u.sz m 1000000000000000)
set_option maxRecDepth 100000 in
set_option maxHeartbeats 3200000 in
theorem bulk_any (u : Un) : CntU u := by
  intro w vs m hv hm0 hm1
  obtain ⟨A1, c1, A2, c2, A3, c3, rfl, q0, q1, q2, q3⟩ := Un.opn hv
  have hr1 := q1.2.2.1
  have hr2 := q2.2.2.1
  have hr3 := q3.2.2.1
  unfold Reach at hr1 hr2 hr3
  have HA := Lib.hid (alloc_at w (.cells #[.string u.pkg, .slice A1 u.imports.length c1, .slice A2 u.decls.length c2, .slice A3 u.bodies.length c3] 63))
  have HW := Lib.hid ((Below.refl _ w).alloc (Nat.le_refl _) (.cells #[.string u.pkg, .slice A1 u.imports.length c1, .slice A2 u.decls.length c2, .slice A3 u.bodies.length c3] 63) : Below w.heap.size w (w.alloc (.cells #[.string u.pkg, .slice A1 u.imports.length c1, .slice A2 u.decls.length c2, .slice A3 u.bodies.length c3] 63)))
  have Q2 := Lib.hid q2; have Q3 := Lib.hid q3
  clear hv q0 q1 q2 q3
  go_enter Try.func37, Try.ntmps37
  go_wp2_with fail
  go_loopw [5, 6] (fun n i wr => ∃ (k : Nat) (s : Int), k ≤ u.decls.length ∧ i = .int .i64 k ∧ n = .int .i64 s ∧ LoopC (w.alloc (.cells #[.string u.pkg, .slice A1 u.imports.length c1, .slice A2 u.decls.length c2, .slice A3 u.bodies.length c3] 63)) (u.imports.length + u.decls.length + u.bodies.length + Dcl.szL (u.decls.take k)) m 1000000000000000 s wr) (fun n i _ => u.decls.length - (intOf i).toNat)
  case atStart =>
    refine ⟨0, u.imports.length + u.decls.length + u.bodies.length, Nat.zero_le _, rfl, by go_num, by omega, by omega, ⟨fun _ => by simp [Dcl.szL], fun h => by simp [Dcl.szL]; omega⟩, Below.refl _ _⟩
  case round =>
    obtain ⟨k, s, hk, rfl, rfl, h0, h1, hc, hb⟩ := hrel
    have x1 := Below.sub hb _ _ ((cell_at HA.out 2).trans rfl : _ = some (.slice A2 u.decls.length c2))
    have HB := Lib.hid hb; have HC := Lib.hid hc; clear hb hc
    by_cases hlt : k < u.decls.length
    case pos =>
      by_cases hle : s ≤ m
      case pos =>
        obtain ⟨b, o, hA, B7, d7, B8, d8, B9, d9, e0, e1, e2, e3, e4, e5, e6, e7, e8, e9, q0, q1, q2, q3, q4, q5, q6, q7, q8, q9⟩ := Dcl.at Q2.out.2.2.2 k hlt
        subst hA
        have hr9 := q9.2.2.1
        unfold Reach at hr9
        have hsub := Below.sub (HW.out.trans (HB.out.mono HW.out.size))
        have HV := Lib.hid ((Ty.shut (w := w) (t := u.decls[k].type) q4 q5 q6 q7 q8).sub hsub)
        have f4 := hsub _ _ e4; have f5 := hsub _ _ e5; have f6 := hsub _ _ e6; have f7 := hsub _ _ e7; have f8 := hsub _ _ e8; have f9 := hsub _ _ e9
        have P9 := Lib.hid q9; have E9 := Lib.hid e9
        clear e0 e1 e2 e3 e4 e5 e6 e7 e8 e9 q0 q1 q2 q3 q4 q5 q6 q7 q8 q9 hsub
        have HS := Lib.hid (Dcl.szL_take u.decls k hlt)
        have HY := Lib.hid (show u.decls[k].sz = u.decls[k].type.sz + u.decls[k].fields.length + Fld.szL u.decls[k].fields from rfl)
        go_wp2_with fail
        refine wp_region_ordN (Since wr) [(0, false), (1, false), (2, false), (3, false), (4, false), (5, false), (6, false), (7, false), (8, false), (9, false), (12, false), (13, false), (14, false), (15, false), (16, false), (17, false), (18, false), (10, true), (11, false), (19, false), (20, false)] (by kernel_rfl) (by kernel_rfl) (Below.drew (Below.refl _ _)) ?_
        apply wpOrd_get rfl
        · go_simp
        · intro wS hS
          go_simp
          try rfl
        intro K hK
        go_simp
        refine hK _ ?_
        clear hK K
        apply wpOrd_get rfl
        · go_simp
        · intro wS hS
          go_simp
          try rfl
        intro K hK
        go_simp
        refine hK _ ?_
        clear hK K
        apply wpOrd_get rfl
        · go_simp
        · intro wS hS
          have x1 := hS.cell x1
          go_simp
          try rfl
        intro K hK
        go_simp
        refine hK _ ?_
        clear hK K
        apply wpOrd_get rfl
        · go_simp
        · intro wS hS
          go_simp
          try rfl
        intro K hK
        go_simp
        refine hK _ ?_
        clear hK K
        apply wpOrd_get rfl
        · go_simp
        · intro wS hS
          go_simp
          try rfl
        intro K hK
        go_simp
        refine hK _ ?_
        clear hK K
        apply wpOrd_get rfl
        · go_simp
        · intro wS hS
          go_simp
          try rfl
        intro K hK
        go_simp
        refine hK _ ?_
        clear hK K
        apply wpOrd_get rfl
        · go_simp
        · intro wS hS
          have f4 := hS.cell f4; have f5 := hS.cell f5; have f6 := hS.cell f6; have f7 := hS.cell f7; have f8 := hS.cell f8
          go_simp
          try rfl
        intro K hK
        go_simp
        refine hK _ ?_
        clear hK K
        apply wpOrd_get rfl
        · go_simp
        · intro wS hS
          go_simp
          try rfl
        intro K hK
        go_simp
        refine hK _ ?_
        clear hK K
        apply wpOrd_get rfl
        · go_simp
        · intro wS hS
          go_simp
          try rfl
        intro K hK
        go_simp
        refine hK _ ?_
        clear hK K
        apply wpOrd_get rfl
        · go_simp
        · intro wS hS
          go_simp
          try rfl
        intro K hK
        go_simp
        refine hK _ ?_
        clear hK K
        apply wpOrd_get rfl
        · go_simp
        · intro wS hS
          go_simp
          try rfl
        intro K hK
        go_simp
        refine hK _ ?_
        clear hK K
        apply wpOrd_get rfl
        · go_simp
        · intro wS hS
          have x1 := hS.cell x1
          go_simp
          try rfl
        intro K hK
        go_simp
        refine hK _ ?_
        clear hK K
        apply wpOrd_get rfl
        · go_simp
        · intro wS hS
          go_simp
          try rfl
        intro K hK
        go_simp
        refine hK _ ?_
        clear hK K
        apply wpOrd_get rfl
        · go_simp
        · intro wS hS
          go_simp
          try rfl
        intro K hK
        go_simp
        refine hK _ ?_
        clear hK K
        apply wpOrd_get rfl
        · go_simp
        · intro wS hS
          go_simp
          try rfl
        intro K hK
        go_simp
        refine hK _ ?_
        clear hK K
        apply wpOrd_get rfl
        · go_simp
        · intro wS hS
          have f9 := hS.cell f9
          go_simp
          try rfl
        intro K hK
        go_simp
        refine hK _ ?_
        clear hK K
        apply wpOrd_get rfl
        · go_simp
        · intro wS hS
          go_simp
          try rfl
        intro K hK
        go_simp
        refine hK _ ?_
        clear hK K
        refine wpOrd_loud rfl (fun K hK => ?_)
        go_wp2_with fail
        refine (cntTy _ _ _ (m - s) (HV.out.sub (Below.sub (Below.drew (Below.refl _ _) : Below wr.heap.size wr wr.drew))) (by omega) (by omega)).mono ?_
        rintro e w1 ⟨r1, rfl, hr1a, hr1b, hr1c, hb1⟩
        have B1 := Lib.hid (HB.out.drew.trans (hb1.mono HB.out.drew.size)); have R1 := Lib.hid hr1c
        have S1 : Since wr w1 := Since.next (w := wr.drew) (Below.drew (Below.refl _ _)) hb1
        clear hb1 hr1c
        go_wp2_with fail
        refine hK _ _ S1 ?_
        clear hK K
        apply wpOrd_get rfl
        · go_simp
        · intro wS hS
          go_simp
          try go_bits
          try rfl
        intro K hK
        go_simp
        refine hK _ ?_
        clear hK K
        apply wpOrd_get rfl
        · go_simp
        · intro wS hS
          go_simp
          try go_bits
          try rfl
        intro K hK
        go_simp
        refine hK _ ?_
        clear hK K
        apply wpOrd_get rfl
        · go_simp
        · intro wS hS
          go_simp
          try rfl
        intro K hK
        go_simp
        refine hK _ ?_
        clear hK K
        refine wpOrd_nilN ?_
        clear f4 f5 f6 f7 f8 f9 x1 S1
        go_wp2_with fail
        have HC1 : Hid (Cnt (s + r1 + (u.decls[k].fields.length : Int)) (u.imports.length + u.decls.length + u.bodies.length + Dcl.szL (u.decls.take k) + u.decls[k].type.sz + u.decls[k].fields.length + Fld.szL (u.decls[k].fields.take 0)) m) := Lib.hid (by
          have x1 := HC.out; have x2 := R1.out
          rw [List.take_zero, show Fld.szL [] = 0 from rfl]
          unfold Cnt at *
          omega)
        have hs0 : 0 ≤ s + r1 + (u.decls[k].fields.length : Int) ∧ s + r1 + (u.decls[k].fields.length : Int) ≤ m + 1000000000000000 := by omega
        obtain ⟨n1, hn1⟩ : ∃ n1 : Int, n1 = s + r1 + (u.decls[k].fields.length : Int) := ⟨_, rfl⟩
        rw [← hn1] at HC1 hs0
        try simp only [← hn1]
        obtain ⟨wo, rfl⟩ : ∃ wo : World, wo = wr := ⟨_, rfl⟩
        obtain ⟨hs0, hs1⟩ := hs0
        clear hn1 HB HC R1 hr1a hr1b h0 h1 hle
        go_loopw [5, 7] (fun n i wr => ∃ (j : Nat) (s : Int), j ≤ u.decls[k].fields.length ∧ i = .int .i64 j ∧ n = .int .i64 s ∧ LoopC (w.alloc (.cells #[.string u.pkg, .slice A1 u.imports.length c1, .slice (some ⟨b, o, none⟩) u.decls.length c2, .slice A3 u.bodies.length c3] 63)) (u.imports.length + u.decls.length + u.bodies.length + Dcl.szL (u.decls.take k) + u.decls[k].type.sz + u.decls[k].fields.length + Fld.szL (u.decls[k].fields.take j)) m 1000000000000000 s wr) (fun n i _ => u.decls[k].fields.length - (intOf i).toNat)
        case atStart => exact ⟨0, n1, Nat.zero_le _, rfl, rfl, hs0, hs1, HC1.out, B1.out⟩
        case round =>
          obtain ⟨j, s, hj, rfl, rfl, h0, h1, hc, hb⟩ := hrel
          have x1 := Below.sub hb _ _ ((cell_at HA.out 2).trans rfl : _ = some (.slice (some ⟨b, o, none⟩) u.decls.length c2))
          have HB := Lib.hid hb; have HC := Lib.hid hc; clear hb hc
          have f9 := Below.sub (HW.out.trans (HB.out.mono HW.out.size)) _ _ E9.out
          by_cases hltj : j < u.decls[k].fields.length
          case pos =>
            by_cases hle : s ≤ m
            case pos =>
              obtain ⟨b', o', hA', B4', d4', B5', d5', e0, e1, e2, e3, e4, e5, q0, q1, q2, q3, q4, q5⟩ := Fld.at P9.out.2.2.2 j hltj
              subst hA'
              have hsub := Below.sub (HW.out.trans (HB.out.mono HW.out.size))
              have HV := Lib.hid ((Ty.shut (w := w) (t := u.decls[k].fields[j].type) q1 q2 q3 q4 q5).sub hsub)
              have g1 := hsub _ _ e1; have g2 := hsub _ _ e2; have g3 := hsub _ _ e3; have g4 := hsub _ _ e4; have g5 := hsub _ _ e5
              clear e0 e1 e2 e3 e4 e5 q0 q1 q2 q3 q4 q5 hsub
              have HSj := Lib.hid (Fld.szL_take u.decls[k].fields j hltj)
              have HYj := Lib.hid (show u.decls[k].fields[j].sz = u.decls[k].fields[j].type.sz from rfl)
              go_wp2_with fail
              refine (cntTy _ _ _ (m - s) HV.out (by omega) (by omega)).mono ?_
              rintro e w1 ⟨r, rfl, hr0, hr1, hr2, hb1⟩
              have HR := Lib.hid hr2
              have B1 := Lib.hid (HB.out.trans (hb1.mono HB.out.size)); clear hb1 hr2
              go_wp2_with fail
              go_roundw
              case rel =>
                refine ⟨j + 1, s + r, by omega, by go_num, by go_num, by omega, by omega, ?_, B1.out⟩
                have x1 := HC.out; have x2 := HR.out; have x3 := HSj.out; have x4 := HYj.out
                unfold Cnt at *
                rw [x3, x4]
                omega
              case measure => simp [intOf]; omega
            case neg =>
              have HT := Lib.hid (Fld.szL_le u.decls[k].fields j)
              go_wp2_with fail
              go_roundw
              case rel =>
                refine ⟨k + 1, s, by omega, by go_num, rfl, h0, h1, ?_, HB.out⟩
                have x1 := HC.out; have x2 := HT.out; have x3 := HS.out; have x4 := HY.out
                unfold Cnt at *
                rw [x3, x4]
                omega
              case measure => simp [intOf]; omega
          case neg =>
            have HT := Lib.hid (Fld.szL_all u.decls[k].fields)
            obtain rfl : j = u.decls[k].fields.length := by omega
            go_wp2_with fail
            go_roundw
            case rel =>
              refine ⟨k + 1, s, by omega, by go_num, rfl, h0, h1, ?_, HB.out⟩
              have x1 := HC.out; have x2 := HT.out; have x3 := HS.out; have x4 := HY.out
              unfold Cnt at *
              rw [x3, x4]
              omega
            case measure => simp [intOf]; omega
      case neg =>
        have HT := Lib.hid (Dcl.szL_le u.decls k)
        have HC0 : Hid (Cnt s (u.imports.length + u.decls.length + u.bodies.length + Dcl.szL u.decls + Fn.szL (u.bodies.take 0)) m) := Lib.hid (by
          have x1 := HC.out; have x2 := HT.out
          rw [List.take_zero, show Fn.szL [] = 0 from rfl]
          unfold Cnt at *
          omega)
        go_wp2_with fail
        have h00 := h0; have h01 := h1
        obtain ⟨s0, rfl⟩ : ∃ s0 : Int, s0 = s := ⟨_, rfl⟩
        obtain ⟨wo, rfl⟩ : ∃ wo : World, wo = wr := ⟨_, rfl⟩
        have HB0 := HB
        clear HC HB HT h0 h1 x1 hlt hle
        go_loopw [5, 8] (fun n i wr => ∃ (k : Nat) (s : Int), k ≤ u.bodies.length ∧ i = .int .i64 k ∧ n = .int .i64 s ∧ LoopC (w.alloc (.cells #[.string u.pkg, .slice A1 u.imports.length c1, .slice A2 u.decls.length c2, .slice A3 u.bodies.length c3] 63)) (u.imports.length + u.decls.length + u.bodies.length + Dcl.szL u.decls + Fn.szL (u.bodies.take k)) m 1000000000000000 s wr) (fun n i _ => u.bodies.length - (intOf i).toNat)
        case atStart => exact ⟨0, s0, Nat.zero_le _, rfl, rfl, h00, h01, HC0.out, HB0.out⟩
        case round =>
          obtain ⟨k, s, hk, rfl, rfl, h0, h1, hc, hb⟩ := hrel
          have x1 := Below.sub hb _ _ ((cell_at HA.out 3).trans rfl : _ = some (.slice A3 u.bodies.length c3))
          have HB := Lib.hid hb; have HC := Lib.hid hc; clear hb hc
          by_cases hlt : k < u.bodies.length
          case pos =>
            by_cases hle : s ≤ m
            case pos =>
              obtain ⟨b, o, hA, B4, d4, e0, e1, e2, e3, e4, q0, q2, q3, q4⟩ := Fn.at Q3.out.2.2.2 k hlt
              subst hA
              have hsub := Below.sub (HW.out.trans (HB.out.mono HW.out.size))
              have f4 := hsub _ _ e4
              have P4 := Lib.hid (q4.sub hsub)
              clear e0 e1 e2 e3 e4 q0 q2 q3 q4 hsub
              have HS := Lib.hid (Fn.szL_take u.bodies k hlt)
              have HY := Lib.hid (show u.bodies[k].sz = St.szL u.bodies[k].body from rfl)
              go_wp2_with fail
              refine (cntStL _ _ B4 d4 (m - s) P4.out (by omega) (by omega)).mono ?_
              rintro e w1 ⟨r, rfl, hr0, hr1, hr2, hb1⟩
              have HR := Lib.hid hr2
              have B1 := Lib.hid (HB.out.trans (hb1.mono HB.out.size)); clear hb1 hr2
              go_wp2_with fail
              go_roundw
              case rel =>
                refine ⟨k + 1, s + r, by omega, by go_num, by go_num, by omega, by omega, ?_, B1.out⟩
                have x1 := HC.out; have x2 := HR.out; have x3 := HS.out; have x4 := HY.out
                unfold Cnt at *
                rw [x3, x4]
                omega
              case measure => simp [intOf]; omega
            case neg =>
              have HT := Lib.hid (Fn.szL_le u.bodies k)
              go_wp2_with fail
              refine bodyPost_ret (results_tmp rfl _ _ _) rfl ⟨s, rfl, h0, h1, ?_, HW.out.trans (HB.out.mono HW.out.size)⟩
              have x1 := HC.out; have x2 := HT.out
              unfold Un.sz
              unfold Cnt at *
              omega
          case neg =>
            have HT := Lib.hid (Fn.szL_all u.bodies)
            obtain rfl : k = u.bodies.length := by omega
            go_wp2_with fail
            refine bodyPost_ret (results_tmp rfl _ _ _) rfl ⟨s, rfl, h0, h1, ?_, HW.out.trans (HB.out.mono HW.out.size)⟩
            have x1 := HC.out; have x2 := HT.out
            unfold Un.sz
            unfold Cnt at *
            omega
    case neg =>
      have HT := Lib.hid (Dcl.szL_all u.decls)
      obtain rfl : k = u.decls.length := by omega
      have HC0 : Hid (Cnt s (u.imports.length + u.decls.length + u.bodies.length + Dcl.szL u.decls + Fn.szL (u.bodies.take 0)) m) := Lib.hid (by
        have x1 := HC.out; have x2 := HT.out
        rw [List.take_zero, show Fn.szL [] = 0 from rfl]
        unfold Cnt at *
        omega)
      go_wp2_with fail
      have h00 := h0; have h01 := h1
      obtain ⟨s0, rfl⟩ : ∃ s0 : Int, s0 = s := ⟨_, rfl⟩
      obtain ⟨wo, rfl⟩ : ∃ wo : World, wo = wr := ⟨_, rfl⟩
      have HB0 := HB
      clear HC HB HT h0 h1 x1 hlt
      go_loopw [5, 8] (fun n i wr => ∃ (k : Nat) (s : Int), k ≤ u.bodies.length ∧ i = .int .i64 k ∧ n = .int .i64 s ∧ LoopC (w.alloc (.cells #[.string u.pkg, .slice A1 u.imports.length c1, .slice A2 u.decls.length c2, .slice A3 u.bodies.length c3] 63)) (u.imports.length + u.decls.length + u.bodies.length + Dcl.szL u.decls + Fn.szL (u.bodies.take k)) m 1000000000000000 s wr) (fun n i _ => u.bodies.length - (intOf i).toNat)
      case atStart => exact ⟨0, s0, Nat.zero_le _, rfl, rfl, h00, h01, HC0.out, HB0.out⟩
      case round =>
        obtain ⟨k, s, hk, rfl, rfl, h0, h1, hc, hb⟩ := hrel
        have x1 := Below.sub hb _ _ ((cell_at HA.out 3).trans rfl : _ = some (.slice A3 u.bodies.length c3))
        have HB := Lib.hid hb; have HC := Lib.hid hc; clear hb hc
        by_cases hlt : k < u.bodies.length
        case pos =>
          by_cases hle : s ≤ m
          case pos =>
            obtain ⟨b, o, hA, B4, d4, e0, e1, e2, e3, e4, q0, q2, q3, q4⟩ := Fn.at Q3.out.2.2.2 k hlt
            subst hA
            have hsub := Below.sub (HW.out.trans (HB.out.mono HW.out.size))
            have f4 := hsub _ _ e4
            have P4 := Lib.hid (q4.sub hsub)
            clear e0 e1 e2 e3 e4 q0 q2 q3 q4 hsub
            have HS := Lib.hid (Fn.szL_take u.bodies k hlt)
            have HY := Lib.hid (show u.bodies[k].sz = St.szL u.bodies[k].body from rfl)
            go_wp2_with fail
            refine (cntStL _ _ B4 d4 (m - s) P4.out (by omega) (by omega)).mono ?_
            rintro e w1 ⟨r, rfl, hr0, hr1, hr2, hb1⟩
            have HR := Lib.hid hr2
            have B1 := Lib.hid (HB.out.trans (hb1.mono HB.out.size)); clear hb1 hr2
            go_wp2_with fail
            go_roundw
            case rel =>
              refine ⟨k + 1, s + r, by omega, by go_num, by go_num, by omega, by omega, ?_, B1.out⟩
              have x1 := HC.out; have x2 := HR.out; have x3 := HS.out; have x4 := HY.out
              unfold Cnt at *
              rw [x3, x4]
              omega
            case measure => simp [intOf]; omega
          case neg =>
            have HT := Lib.hid (Fn.szL_le u.bodies k)
            go_wp2_with fail
            refine bodyPost_ret (results_tmp rfl _ _ _) rfl ⟨s, rfl, h0, h1, ?_, HW.out.trans (HB.out.mono HW.out.size)⟩
            have x1 := HC.out; have x2 := HT.out
            unfold Un.sz
            unfold Cnt at *
            omega
        case neg =>
          have HT := Lib.hid (Fn.szL_all u.bodies)
          obtain rfl : k = u.bodies.length := by omega
          go_wp2_with fail
          refine bodyPost_ret (results_tmp rfl _ _ _) rfl ⟨s, rfl, h0, h1, ?_, HW.out.trans (HB.out.mono HW.out.size)⟩
          have x1 := HC.out; have x2 := HT.out
          unfold Un.sz
          unfold Cnt at *
          omega
end Go.Proofs.Ytiecbgclkdlpkaa
