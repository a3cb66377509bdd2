/-
  The walk of kinds.Text: a type as text. The conditions: the type reads; its parts' texts are not too long together.
-/
import Derived.Test.YtiecbgclkdlpkaaKTextA
namespace Go.Proofs.Ytiecbgclkdlpkaa
open Go.RowKit
set_option linter.unusedVariables false
set_option linter.unusedSimpArgs false

set_option maxRecDepth 100000 in
set_option maxHeartbeats 6400000 in
theorem text_plain (t : Ty) (h1 : t.args.length ≤ 1000000) (hl : longT t ≤ 70368744177664) (o_args : ∀ x ∈ t.args, TextC x) (o_res : ∀ x ∈ t.res, TextC x) (hk6 : (t.kind == 6) = false) (hk7 : (t.kind == 7) = false) : TextC t := by
  intro w vs hv
  obtain ⟨A3, c3, A4, c4, rfl, q0, q1, q2, q3, q4⟩ := Ty.opn hv
  have HT := Lib.hid (textB_eq t)
  have HLT := Lib.hid (longT_eq t)
  have z1 : t.pkg.size ≤ 140737488351232 := q1
  have z2 : t.name.size ≤ 140737488351232 := q2
  have Q3 := Lib.hid q3; have Q4 := Lib.hid q4
  have HA := Lib.hid o_args; have HR := Lib.hid o_res; have HL := Lib.hid hl; have H1 := Lib.hid h1
  have HB := Lib.hid ((Below.refl w.heap.size w).alloc (Nat.le_refl _) (.cells #[.int .i64 t.kind, .string t.pkg, .string t.name, .slice A3 t.args.length c3, .slice A4 t.res.length c4] 26))
  clear hv q0 q1 q2 q3 q4 o_args o_res hl h1
  go_enter Try.func29, Try.ntmps29
  go_wp2_with fail
  all_goals first | (exfalso; omega) | skip
  all_goals
    refine bodyPost_ret (results_tmp rfl _ _ _) rfl ⟨?_, HB.out⟩
    rw [HT.out]
    first | (simp only [nameB, (by assumption : (t.kind == 0) = true), if_true, if_false, Bool.false_eq_true]) | (simp only [nameB, (by assumption : (t.kind == 0) = false), (by assumption : (t.kind == 1) = true), if_true, if_false, Bool.false_eq_true]) | (simp only [nameB, (by assumption : (t.kind == 0) = false), (by assumption : (t.kind == 1) = false), (by assumption : (t.kind == 2) = true), if_true, if_false, Bool.false_eq_true]) | (simp only [nameB, (by assumption : (t.kind == 0) = false), (by assumption : (t.kind == 1) = false), (by assumption : (t.kind == 2) = false), (by assumption : (t.kind == 3) = true), if_true, if_false, Bool.false_eq_true]) | (simp only [nameB, (by assumption : (t.kind == 0) = false), (by assumption : (t.kind == 1) = false), (by assumption : (t.kind == 2) = false), (by assumption : (t.kind == 3) = false), (by assumption : (t.kind == 4) = true), if_true, if_false, Bool.false_eq_true]) | (simp only [nameB, (by assumption : (t.kind == 0) = false), (by assumption : (t.kind == 1) = false), (by assumption : (t.kind == 2) = false), (by assumption : (t.kind == 3) = false), (by assumption : (t.kind == 4) = false), (by assumption : (t.kind == 5) = true), if_true, if_false, Bool.false_eq_true]) | (simp only [nameB, (by assumption : (t.kind == 0) = false), (by assumption : (t.kind == 1) = false), (by assumption : (t.kind == 2) = false), (by assumption : (t.kind == 3) = false), (by assumption : (t.kind == 4) = false), (by assumption : (t.kind == 5) = false), (by assumption : (t.kind == 8) = true), if_true, if_false, Bool.false_eq_true]) | (simp only [nameB, (by assumption : (t.kind == 0) = false), (by assumption : (t.kind == 1) = false), (by assumption : (t.kind == 2) = false), (by assumption : (t.kind == 3) = false), (by assumption : (t.kind == 4) = false), (by assumption : (t.kind == 5) = false), (by assumption : (t.kind == 8) = false), (by assumption : (t.kind == 9) = true), if_true, if_false, Bool.false_eq_true]) | (simp only [nameB, (by assumption : (t.kind == 0) = false), (by assumption : (t.kind == 1) = false), (by assumption : (t.kind == 2) = false), (by assumption : (t.kind == 3) = false), (by assumption : (t.kind == 4) = false), (by assumption : (t.kind == 5) = false), (by assumption : (t.kind == 8) = false), (by assumption : (t.kind == 9) = false), (by assumption : (t.kind == 6) = false), (by assumption : (t.kind == 7) = false), if_true, if_false, Bool.false_eq_true])
    all_goals rfl
set_option maxRecDepth 100000 in
set_option maxHeartbeats 6400000 in
theorem text_slice (t : Ty) (h1 : t.args.length ≤ 1000000) (hl : longT t ≤ 70368744177664) (o_args : ∀ x ∈ t.args, TextC x) (o_res : ∀ x ∈ t.res, TextC x) (hk : t.kind = 6) : TextC t := by
  intro w vs hv
  obtain ⟨A3, c3, A4, c4, rfl, q0, q1, q2, q3, q4⟩ := Ty.opn hv
  have HT := Lib.hid (textB_eq t)
  have HLT := Lib.hid (longT_eq t)
  have z1 : t.pkg.size ≤ 140737488351232 := q1
  have z2 : t.name.size ≤ 140737488351232 := q2
  have Q3 := Lib.hid q3; have Q4 := Lib.hid q4
  have HA := Lib.hid o_args; have HR := Lib.hid o_res; have HL := Lib.hid hl; have H1 := Lib.hid h1
  have HB := Lib.hid ((Below.refl w.heap.size w).alloc (Nat.le_refl _) (.cells #[.int .i64 t.kind, .string t.pkg, .string t.name, .slice A3 t.args.length c3, .slice A4 t.res.length c4] 26))
  clear hv q0 q1 q2 q3 q4 o_args o_res hl h1
  have k0 : (t.kind == 0) = false := by rw [hk]; rfl
  have k1 : (t.kind == 1) = false := by rw [hk]; rfl
  have k2 : (t.kind == 2) = false := by rw [hk]; rfl
  have k3 : (t.kind == 3) = false := by rw [hk]; rfl
  have k4 : (t.kind == 4) = false := by rw [hk]; rfl
  have k5 : (t.kind == 5) = false := by rw [hk]; rfl
  have k8 : (t.kind == 8) = false := by rw [hk]; rfl
  have k9 : (t.kind == 9) = false := by rw [hk]; rfl
  have k6 : (t.kind == 6) = true := by rw [hk]; rfl
  have k7 : (t.kind == 7) = false := by rw [hk]; rfl
  by_cases hx : 0 < t.args.length
  case neg =>
    have hz : t.args = [] := List.eq_nil_of_length_eq_zero (by omega)
    have HZ := Lib.hid (show textB t = ⟨#[91, 93]⟩ by rw [HT.out, hz]; simp only [nameB, k0, k1, k2, k3, k4, k5, k8, k9, k6, if_true, if_false, Bool.false_eq_true, List.map_nil, firstB])
    have hl0 : ((t.args.length : Int) == 0) = true := by rw [hz]; rfl
    clear hk hz
    go_enter Try.func29, Try.ntmps29
    go_wp2_with fail
    refine bodyPost_ret (results_tmp rfl _ _ _) rfl ⟨?_, HB.out⟩
    rw [HZ.out]; rfl
  have hl0 : ((t.args.length : Int) == 0) = false := by simp; intro h; rw [h] at hx; exact absurd hx (by simp)
  have hl1 : (0 : Int) < t.args.length := by omega
  obtain ⟨b, o, hA, E3, x3, E4, x4, e0, e1, e2, e3, e4, y0, y1, y2, y3, y4⟩ := Ty.at Q3.out.2.2.2 0 hx
  subst hA
  have hsub := Below.sub HB.out
  have HVX := Lib.hid ((Ty.shut (w := w) (t := t.args[0]) y0 y1 y2 y3 y4).sub hsub)
  rw [Nat.zero_mul, Nat.add_zero] at e0 e1 e2 e3 e4
  have f0 := hsub _ _ e0; have f1 := hsub _ _ e1; have f2 := hsub _ _ e2; have f3 := hsub _ _ e3; have f4 := hsub _ _ e4
  have HKX := Lib.hid (List.getElem_mem hx)
  obtain ⟨s, hs⟩ : ∃ s, s = textB t.args[0] := ⟨_, rfl⟩
  have HS := Lib.hid hs
  have zs : s.size ≤ 140737488351232 := by
    have h1 := longL_mem HKX.out; have h2 := textB_long t.args[0]; have h3 := HL.out; have h4 := HLT.out
    rw [hs]; omega
  have HZ := Lib.hid (show textB t = (⟨#[91, 93]⟩ : ByteArray) ++ s by
    rw [HT.out, hs]; simp only [nameB, k0, k1, k2, k3, k4, k5, k8, k9, k6, if_true, if_false, Bool.false_eq_true]
    exact firstB_at textB t.args hx)
  clear hk hs hsub e0 e1 e2 e3 e4 y0 y1 y2 y3 y4
  go_enter Try.func29, Try.ntmps29
  go_wp2_with fail
  refine (HA.out _ HKX.out _ _ HVX.out).mono ?_
  rw [← HS.out]
  rintro e w1 ⟨rfl, hb⟩
  have HB1 := Lib.hid (HB.out.trans (hb.mono HB.out.size)); clear hb
  go_wp2_with fail
  all_goals first | (exfalso; omega) | skip
  refine bodyPost_ret (results_tmp rfl _ _ _) rfl ⟨?_, HB1.out⟩
  rw [HZ.out]; rfl
set_option maxRecDepth 100000 in
set_option maxHeartbeats 6400000 in
theorem text_func (t : Ty) (h1 : t.args.length ≤ 1000000) (hl : longT t ≤ 70368744177664) (o_args : ∀ x ∈ t.args, TextC x) (o_res : ∀ x ∈ t.res, TextC x) (hk : t.kind = 7) : TextC t := by
  intro w vs hv
  obtain ⟨A3, c3, A4, c4, rfl, q0, q1, q2, q3, q4⟩ := Ty.opn hv
  have HT := Lib.hid (textB_eq t)
  have HLT := Lib.hid (longT_eq t)
  have z1 : t.pkg.size ≤ 140737488351232 := q1
  have z2 : t.name.size ≤ 140737488351232 := q2
  have Q3 := Lib.hid q3; have Q4 := Lib.hid q4
  have HA := Lib.hid o_args; have HR := Lib.hid o_res; have HL := Lib.hid hl; have H1 := Lib.hid h1
  have HB := Lib.hid ((Below.refl w.heap.size w).alloc (Nat.le_refl _) (.cells #[.int .i64 t.kind, .string t.pkg, .string t.name, .slice A3 t.args.length c3, .slice A4 t.res.length c4] 26))
  clear hv q0 q1 q2 q3 q4 o_args o_res hl h1
  have k0 : (t.kind == 0) = false := by rw [hk]; rfl
  have k1 : (t.kind == 1) = false := by rw [hk]; rfl
  have k2 : (t.kind == 2) = false := by rw [hk]; rfl
  have k3 : (t.kind == 3) = false := by rw [hk]; rfl
  have k4 : (t.kind == 4) = false := by rw [hk]; rfl
  have k5 : (t.kind == 5) = false := by rw [hk]; rfl
  have k8 : (t.kind == 8) = false := by rw [hk]; rfl
  have k9 : (t.kind == 9) = false := by rw [hk]; rfl
  have k6 : (t.kind == 6) = false := by rw [hk]; rfl
  have k7 : (t.kind == 7) = true := by rw [hk]; rfl
  have HSA := Lib.hid (fun x (hx : x ∈ t.args) => show (textB x).size ≤ Reach by
    have h1 := longL_mem hx; have h2 := textB_long x; have h3 := HL.out; have h4 := HLT.out
    unfold Reach; omega)
  obtain ⟨s, hs⟩ : ∃ s, s = joinB (t.args.map textB) := ⟨_, rfl⟩
  have zs : s.size ≤ 70368744177664 := by
    have h1 := joinB_long (t.args.map textB); have h2 := textBL_long t.args; have h3 := HL.out; have h4 := HLT.out
    rw [textBL_map] at h2; rw [hs]; omega
  have HS := Lib.hid hs
  have HZ := Lib.hid (show textB t = backB ((⟨#[102, 117, 110, 99, 40]⟩ : ByteArray) ++ s ++ ⟨#[41]⟩) (t.res.map textB) by rw [HT.out, hs]; simp only [nameB, k0, k1, k2, k3, k4, k5, k8, k9, k6, k7, if_true, if_false, Bool.false_eq_true])
  have HBT := Lib.hid (alloc_at w (.cells #[.int .i64 t.kind, .string t.pkg, .string t.name, .slice A3 t.args.length c3, .slice A4 t.res.length c4] 26))
  clear hs hk
  go_enter Try.func29, Try.ntmps29
  go_wp2_with fail
  refine (eachStr_any (w.alloc (.cells #[.int .i64 t.kind, .string t.pkg, .string t.name, .slice A3 t.args.length c3, .slice A4 t.res.length c4] 26)) t.args A3 c3 (Q3.out.sub (Below.sub HB.out)) H1.out 29 textB enters_Text (fun x hx w' vs _ hv => HA.out x hx w' vs hv) HSA.out).mono ?_
  rintro e w1 ⟨B, d, rfl, hd, _, hb⟩
  have HB1 := Lib.hid (HB.out.trans (hb.mono HB.out.size))
  have HBT1 := Lib.hid ((hb.block _ (lt_of_block HBT.out)).trans HBT.out)
  have HD := Lib.hid (strs_sl hd)
  clear hd hb
  rw [List.length_map] at HD ⊢
  go_wp2_with fail
  refine (join_any w1 (t.args.map textB) B d t.args.length (by simp) HD.out (by rw [← HS.out]; omega)).mono ?_
  rw [← HS.out]
  rintro e w2 ⟨rfl, hb⟩
  have HB2 := Lib.hid (HB1.out.trans (hb.mono HB1.out.size))
  have HBT2 := Lib.hid ((hb.block _ (lt_of_block HBT1.out)).trans HBT1.out)
  have v4 : w2.cell? ⟨w.heap.size, 4, none⟩ = some (.slice A4 t.res.length c4) := (cell_at HBT2.out 4).trans rfl
  clear hb
  by_cases hx : 0 < t.res.length
  case neg =>
    have hl0 : ¬ (0 : Int) < (t.res.length : Int) := by omega
    have hz : t.res = [] := List.eq_nil_of_length_eq_zero (by omega)
    rw [hz, List.map_nil] at HZ
    clear hz
    go_wp2_with fail
    all_goals first | (exfalso; omega) | skip
    refine bodyPost_ret (results_tmp rfl _ _ _) rfl ⟨?_, HB2.out⟩
    rw [HZ.out]; rfl
  have hl1 : (0 : Int) < (t.res.length : Int) := by omega
  obtain ⟨b, o, hA, E3, x3, E4, x4, e0, e1, e2, e3, e4, y0, y1, y2, y3, y4⟩ := Ty.at Q4.out.2.2.2 0 hx
  subst hA
  have hsub := Below.sub HB2.out
  have HVX := Lib.hid ((Ty.shut (w := w) (t := t.res[0]) y0 y1 y2 y3 y4).sub hsub)
  rw [Nat.zero_mul, Nat.add_zero] at e0 e1 e2 e3 e4
  have f0 := hsub _ _ e0; have f1 := hsub _ _ e1; have f2 := hsub _ _ e2; have f3 := hsub _ _ e3; have f4 := hsub _ _ e4
  have HKX := Lib.hid (List.getElem_mem hx)
  obtain ⟨r, hr⟩ : ∃ r, r = textB t.res[0] := ⟨_, rfl⟩
  have HRR := Lib.hid hr
  have zr : r.size ≤ 140737488351232 := by
    have h1 := longL_mem HKX.out; have h2 := textB_long t.res[0]; have h3 := HL.out; have h4 := HLT.out
    rw [hr]; omega
  rw [backB_at textB _ t.res hx, ← hr] at HZ
  clear hr hsub e0 e1 e2 e3 e4 y0 y1 y2 y3 y4
  go_wp2_with fail
  all_goals first | (exfalso; omega) | skip
  refine (HR.out _ HKX.out _ _ HVX.out).mono ?_
  rw [← HRR.out]
  rintro e w3 ⟨rfl, hb⟩
  have HB3 := Lib.hid (HB2.out.trans (hb.mono HB2.out.size)); clear hb
  go_wp2_with fail
  all_goals first | (exfalso; omega) | skip
  refine bodyPost_ret (results_tmp rfl _ _ _) rfl ⟨?_, HB3.out⟩
  rw [HZ.out]; rfl
theorem text_size : ∀ (n : Nat) (t : Ty), SizeOf.sizeOf t < n → t.sz ≤ 1000000 → longT t ≤ 70368744177664 → TextC t
  | 0, _, h, _, _ => absurd h (Nat.not_lt_zero _)
  | n + 1, .mk k p s xs ys, h, hz, hl => by
    simp only [Ty.mk.sizeOf_spec] at h
    have hz' := Ty.sz_eq (.mk k p s xs ys)
    have hl' := longT_eq (.mk k p s xs ys)
    have o1 : ∀ x ∈ (Ty.mk k p s xs ys).args, TextC x := fun x hx => text_size n x (by have := List.sizeOf_lt_of_mem hx; simp only [Ty.args] at this; omega) (by have := Ty.mem_sz hx; omega) (by have := longL_mem hx; omega)
    have o2 : ∀ x ∈ (Ty.mk k p s xs ys).res, TextC x := fun x hx => text_size n x (by have := List.sizeOf_lt_of_mem hx; simp only [Ty.res] at this; omega) (by have := Ty.mem_sz hx; omega) (by have := longL_mem hx; omega)
    have h1 : (Ty.mk k p s xs ys).args.length ≤ 1000000 := by have := Ty.len_sz (Ty.mk k p s xs ys).args; omega
    by_cases h6 : (Ty.mk k p s xs ys).kind = 6
    · exact text_slice _ h1 hl o1 o2 h6
    by_cases h7 : (Ty.mk k p s xs ys).kind = 7
    · exact text_func _ h1 hl o1 o2 h7
    exact text_plain _ h1 hl o1 o2 (by simpa using h6) (by simpa using h7)
theorem textC (t : Ty) (hz : t.sz ≤ 1000000) (hl : longT t ≤ 70368744177664) : TextC t := text_size _ t (Nat.lt_succ_self _) hz hl
end Go.Proofs.Ytiecbgclkdlpkaa
