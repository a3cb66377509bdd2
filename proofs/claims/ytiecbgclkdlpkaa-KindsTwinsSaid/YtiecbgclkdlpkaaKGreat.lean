/-
  The walks of the statements' guards great, fields and units. The condition: what is handed in reads.
-/
import Derived.Test.YtiecbgclkdlpkaaBulk7
namespace Go.Proofs.Ytiecbgclkdlpkaa
open Go.RowKit
set_option linter.unusedVariables false
set_option linter.unusedSimpArgs false

def Un.szL : List Un → Nat
  | [] => 0
  | u :: r => 1 + u.sz + Un.szL r
theorem Un.szL_take : ∀ (l : List Un) (k : Nat) (h : k < l.length), Un.szL (l.take (k + 1)) = Un.szL (l.take k) + (1 + Un.sz l[k])
  | u :: r, 0, _ => by simp [Un.szL]
  | u :: r, k + 1, h => by
    have := Un.szL_take r k (by simpa using h)
    simp only [List.take_succ_cons, Un.szL, List.getElem_cons_succ] at this ⊢
    omega
theorem Un.szL_le : ∀ (l : List Un) (k : Nat), Un.szL (l.take k) ≤ Un.szL l
  | [], k => by simp [Un.szL]
  | u :: r, 0 => by simp [Un.szL]
  | u :: r, k + 1 => by
    have := Un.szL_le r k
    simp only [List.take_succ_cons, Un.szL]
    omega
theorem Un.szL_all (l : List Un) : Un.szL (l.take l.length) = Un.szL l := by rw [List.take_length]
/-- What a guard answers: where it lets through, there are at most so many parts. -/
def GuardA (w : World) (s most : Nat) (e : Ending) (w' : World) : Prop := ∃ g : Bool, e = .returned (.bool g) ∧ (g = false → s ≤ most) ∧ Below w.heap.size w w'

set_option maxRecDepth 100000 in
set_option maxHeartbeats 1600000 in
theorem great_any (w : World) (l : List Ty) (A : Option Addr) (c : Nat) (hl : SL w 5 (Ty.ds l) l.length A c) : Calls Try.prog 14 #[.slice A l.length c] w (GuardA w (Ty.szL l) 400) := by
  have hr := hl.2.2.1
  unfold Reach at hr
  have HL := Lib.hid hl; clear hl
  go_enter Try.func14, Try.ntmps14
  go_wp2_with fail
  go_loopw [3, 4] (fun n i wr => ∃ (k : Nat) (s : Int), k ≤ l.length ∧ i = .int .i64 k ∧ n = .int .i64 s ∧ LoopC w (Ty.szL (l.take k)) 400 1 s wr) (fun n i _ => l.length - (intOf i).toNat)
  case atStart => exact ⟨0, 0, Nat.zero_le _, rfl, rfl, Int.le_refl _, by omega, ⟨fun _ => rfl, fun h => absurd h (by omega)⟩, Below.refl _ _⟩
  case round =>
    obtain ⟨k, s, hk, rfl, rfl, h0, h1, hc, hb⟩ := hrel
    have HB := Lib.hid hb; have HC := Lib.hid hc; clear hb hc
    by_cases hlt : k < l.length
    · by_cases hle : s ≤ 400
      · obtain ⟨bb, o, hA, A3, c3, A4, c4, e0, e1, e2, e3, e4, q0, q1, q2, q3, q4⟩ := Ty.at HL.out.2.2.2 k hlt
        subst hA
        have hsub := Below.sub HB.out
        have f0 := hsub _ _ e0; have f1 := hsub _ _ e1; have f2 := hsub _ _ e2; have f3 := hsub _ _ e3; have f4 := hsub _ _ e4
        have HV := Lib.hid (Ty.shut (w := w) (t := l[k]) q0 q1 q2 q3 q4)
        clear hsub
        clear e0 e1 e2 e3 e4 q0 q1 q2 q3 q4
        have HS := Lib.hid (Ty.szL_take l k hlt)
        have hlt' : (k : Int) < l.length := by omega
        go_wp2_with fail
        refine (cntTy l[k] _ _ (400 - s) (HV.out.sub (Below.sub HB.out)) (by omega) (by omega)).mono ?_
        rintro e w1 ⟨r, rfl, hr0, hr1, hr2, hb1⟩
        have HR := Lib.hid hr2
        have B1 := Lib.hid (HB.out.trans (hb1.mono HB.out.size)); clear hb1 hr2
        go_wp2_with fail
        go_roundw
        case rel =>
          refine ⟨k + 1, s + r, by omega, by go_num, by go_num, by omega, by omega, ?_, B1.out⟩
          have x1 := HC.out; have x2 := HR.out; have x3 := HS.out
          unfold Cnt at *
          rw [x3]
          try rw [Fld.sz]
          omega
        case measure => simp [intOf]; omega
      · have HT := Lib.hid (Ty.szL_le l k)
        have hlt' : (k : Int) < l.length := by omega
        go_wp2_with fail
        refine bodyPost_ret (results_tmp rfl _ _ _) rfl ⟨true, rfl, (fun h => by cases h), HB.out⟩
    · have HT := Lib.hid (Ty.szL_all l)
      obtain rfl : k = l.length := by omega
      have hlt' : ¬ (l.length : Int) < l.length := by omega
      by_cases hle : (400 : Int) < s
      · go_wp2_with fail
        refine bodyPost_ret (results_tmp rfl _ _ _) rfl ⟨true, rfl, (fun h => by cases h), HB.out⟩
      · go_wp2_with fail
        refine bodyPost_ret (results_tmp rfl _ _ _) rfl ⟨false, rfl, fun _ => ?_, HB.out⟩
        have x1 := HC.out; have x2 := HT.out
        unfold Cnt at *
        rw [x2] at x1
        omega
set_option maxRecDepth 100000 in
set_option maxHeartbeats 1600000 in
theorem fields_any (w : World) (l : List Fld) (A : Option Addr) (c : Nat) (hl : SL w 6 (Fld.ds l) l.length A c) : Calls Try.prog 13 #[.slice A l.length c] w (GuardA w (Fld.szL l) 400) := by
  have hr := hl.2.2.1
  unfold Reach at hr
  have HL := Lib.hid hl; clear hl
  go_enter Try.func13, Try.ntmps13
  go_wp2_with fail
  go_loopw [3, 4] (fun n i wr => ∃ (k : Nat) (s : Int), k ≤ l.length ∧ i = .int .i64 k ∧ n = .int .i64 s ∧ LoopC w (Fld.szL (l.take k)) 400 1 s wr) (fun n i _ => l.length - (intOf i).toNat)
  case atStart => exact ⟨0, 0, Nat.zero_le _, rfl, rfl, Int.le_refl _, by omega, ⟨fun _ => rfl, fun h => absurd h (by omega)⟩, Below.refl _ _⟩
  case round =>
    obtain ⟨k, s, hk, rfl, rfl, h0, h1, hc, hb⟩ := hrel
    have HB := Lib.hid hb; have HC := Lib.hid hc; clear hb hc
    by_cases hlt : k < l.length
    · by_cases hle : s ≤ 400
      · obtain ⟨bb, o, hA, A4, c4, A5, c5, e0, e1, e2, e3, e4, e5, q0, q1, q2, q3, q4, q5⟩ := Fld.at HL.out.2.2.2 k hlt
        subst hA
        have hsub := Below.sub HB.out
        have f0 := hsub _ _ e0; have f1 := hsub _ _ e1; have f2 := hsub _ _ e2; have f3 := hsub _ _ e3; have f4 := hsub _ _ e4; have f5 := hsub _ _ e5
        have HV := Lib.hid (Ty.shut (w := w) (t := l[k].type) q1 q2 q3 q4 q5)
        clear hsub
        clear e0 e1 e2 e3 e4 e5 q0 q1 q2 q3 q4 q5
        have HS := Lib.hid (Fld.szL_take l k hlt)
        have hlt' : (k : Int) < l.length := by omega
        go_wp2_with fail
        refine (cntTy l[k].type _ _ (400 - s) (HV.out.sub (Below.sub HB.out)) (by omega) (by omega)).mono ?_
        rintro e w1 ⟨r, rfl, hr0, hr1, hr2, hb1⟩
        have HR := Lib.hid hr2
        have B1 := Lib.hid (HB.out.trans (hb1.mono HB.out.size)); clear hb1 hr2
        go_wp2_with fail
        go_roundw
        case rel =>
          refine ⟨k + 1, s + r, by omega, by go_num, by go_num, by omega, by omega, ?_, B1.out⟩
          have x1 := HC.out; have x2 := HR.out; have x3 := HS.out
          unfold Cnt at *
          rw [x3]
          try rw [Fld.sz]
          omega
        case measure => simp [intOf]; omega
      · have HT := Lib.hid (Fld.szL_le l k)
        have hlt' : (k : Int) < l.length := by omega
        go_wp2_with fail
        refine bodyPost_ret (results_tmp rfl _ _ _) rfl ⟨true, rfl, (fun h => by cases h), HB.out⟩
    · have HT := Lib.hid (Fld.szL_all l)
      obtain rfl : k = l.length := by omega
      have hlt' : ¬ (l.length : Int) < l.length := by omega
      by_cases hle : (400 : Int) < s
      · go_wp2_with fail
        refine bodyPost_ret (results_tmp rfl _ _ _) rfl ⟨true, rfl, (fun h => by cases h), HB.out⟩
      · go_wp2_with fail
        refine bodyPost_ret (results_tmp rfl _ _ _) rfl ⟨false, rfl, fun _ => ?_, HB.out⟩
        have x1 := HC.out; have x2 := HT.out
        unfold Cnt at *
        rw [x2] at x1
        omega
set_option maxRecDepth 100000 in
set_option maxHeartbeats 1600000 in
theorem units_any (w : World) (l : List Un) (A : Option Addr) (c : Nat) (hl : SL w 4 (Un.ds l) l.length A c) : Calls Try.prog 12 #[.slice A l.length c] w (GuardA w (Un.szL l) 2000) := by
  have hr := hl.2.2.1
  unfold Reach at hr
  have HL := Lib.hid hl; clear hl
  go_enter Try.func12, Try.ntmps12
  go_wp2_with fail
  go_loopw [3, 4] (fun n i wr => ∃ (k : Nat) (s : Int), k ≤ l.length ∧ i = .int .i64 k ∧ n = .int .i64 s ∧ LoopC w (Un.szL (l.take k)) 2000 1000000000000001 s wr) (fun n i _ => l.length - (intOf i).toNat)
  case atStart => exact ⟨0, 0, Nat.zero_le _, rfl, rfl, Int.le_refl _, by omega, ⟨fun _ => rfl, fun h => absurd h (by omega)⟩, Below.refl _ _⟩
  case round =>
    obtain ⟨k, s, hk, rfl, rfl, h0, h1, hc, hb⟩ := hrel
    have HB := Lib.hid hb; have HC := Lib.hid hc; clear hb hc
    by_cases hlt : k < l.length
    · by_cases hle : s ≤ 2000
      · obtain ⟨bb, o, hA, A1, c1, A2, c2, A3, c3, e0, e1, e2, e3, q0, q1, q2, q3⟩ := Un.at HL.out.2.2.2 k hlt
        subst hA
        have hsub := Below.sub HB.out
        have f0 := hsub _ _ e0; have f1 := hsub _ _ e1; have f2 := hsub _ _ e2; have f3 := hsub _ _ e3
        have HV := Lib.hid (Un.shut (w := w) (t := l[k]) q0 q1 q2 q3)
        clear hsub
        clear e0 e1 e2 e3 q0 q1 q2 q3
        have HS := Lib.hid (Un.szL_take l k hlt)
        have hlt' : (k : Int) < l.length := by omega
        go_wp2_with fail
        refine (bulk_any l[k] _ _ (2000 - s) (HV.out.sub (Below.sub HB.out)) (by omega) (by omega)).mono ?_
        rintro e w1 ⟨r, rfl, hr0, hr1, hr2, hb1⟩
        have HR := Lib.hid hr2
        have B1 := Lib.hid (HB.out.trans (hb1.mono HB.out.size)); clear hb1 hr2
        go_wp2_with fail
        go_roundw
        case rel =>
          refine ⟨k + 1, s + 1 + r, by omega, by go_num, by go_num, by omega, by omega, ?_, B1.out⟩
          have x1 := HC.out; have x2 := HR.out; have x3 := HS.out
          unfold Cnt at *
          rw [x3]
          try rw [Fld.sz]
          omega
        case measure => simp [intOf]; omega
      · have HT := Lib.hid (Un.szL_le l k)
        have hlt' : (k : Int) < l.length := by omega
        go_wp2_with fail
        refine bodyPost_ret (results_tmp rfl _ _ _) rfl ⟨true, rfl, (fun h => by cases h), HB.out⟩
    · have HT := Lib.hid (Un.szL_all l)
      obtain rfl : k = l.length := by omega
      have hlt' : ¬ (l.length : Int) < l.length := by omega
      by_cases hle : (2000 : Int) < s
      · go_wp2_with fail
        refine bodyPost_ret (results_tmp rfl _ _ _) rfl ⟨true, rfl, (fun h => by cases h), HB.out⟩
      · go_wp2_with fail
        refine bodyPost_ret (results_tmp rfl _ _ _) rfl ⟨false, rfl, fun _ => ?_, HB.out⟩
        have x1 := HC.out; have x2 := HT.out
        unfold Cnt at *
        rw [x2] at x1
        omega
end Go.Proofs.Ytiecbgclkdlpkaa
