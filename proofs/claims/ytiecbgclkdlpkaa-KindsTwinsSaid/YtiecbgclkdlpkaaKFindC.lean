/-
  The walk of mortiseref7.Find: what a package declares by a name. The condition: what is handed in reads.
-/
import Derived.Test.YtiecbgclkdlpkaaKFindB
namespace Go.Proofs.Ytiecbgclkdlpkaa
open Go.RowKit
set_option linter.unusedVariables false
set_option linter.unusedSimpArgs false

theorem unit_split (us : List Un) (p : ByteArray) : (unitI us p = -1 ∧ unitP us p = un0) ∨ ∃ (n : Nat) (h : n < us.length), unitI us p = n ∧ unitP us p = us[n] := by
  unfold unitI unitP
  cases h : us.findIdx? (isU p) with
  | none =>
    refine .inl ⟨rfl, ?_⟩
    rw [List.find?_eq_none.2 (fun x hx => by have := List.findIdx?_eq_none_iff.1 h x hx; simp [this])]
    rfl
  | some n =>
    obtain ⟨hn, hp, hj⟩ := List.findIdx?_eq_some_iff_getElem.1 h
    refine .inr ⟨n, hn, rfl, ?_⟩
    rw [find_hit hn (fun j hj' hlt => by simpa using hj j hlt) hp]
    rfl
theorem dcl0_vals (v : World) : Vals v dcl0.d [.int .i64 0, .string ⟨#[]⟩, .string ⟨#[]⟩, .int .i64 0, .int .i64 0, .string ⟨#[]⟩, .string ⟨#[]⟩, .slice none 0 0, .slice none 0 0, .slice none 0 0] := Dcl.shut (t := dcl0) ⟨by decide, by decide⟩ (by decide) (by decide) ⟨by decide, by decide⟩ ⟨by decide, by decide⟩ (by decide) (by decide) (nil_sl _ _) (nil_sl _ _) (nil_sl _ _)
set_option maxRecDepth 100000 in
set_option maxHeartbeats 1600000 in
theorem rfind_any (v w : World) (hvw : Below v.heap.size v w) (us : List Un) (p s : ByteArray) (A : Option Addr) (c : Nat) (hl : SL v 4 (Un.ds us) us.length A c) : Calls Try.prog 32 #[.slice A us.length c, .string p, .string s] w (GetD v w (findP us p s)) := by
  have hr := hl.2.2.1
  unfold Reach at hr
  have HL := Lib.hid hl
  have HB0 := Lib.hid ((Below.refl w.heap.size w).alloc (Nat.le_refl _) (.cells #[.int .i64 0, .string ⟨#[]⟩, .string ⟨#[]⟩, .int .i64 0, .int .i64 0, .string ⟨#[]⟩, .string ⟨#[]⟩, .slice none 0 0, .slice none 0 0, .slice none 0 0] 46))
  have HV0 := Lib.hid (show Below v.heap.size v (w.alloc (.cells #[.int .i64 0, .string ⟨#[]⟩, .string ⟨#[]⟩, .int .i64 0, .int .i64 0, .string ⟨#[]⟩, .string ⟨#[]⟩, .slice none 0 0, .slice none 0 0, .slice none 0 0] 46)) from hvw.trans (HB0.out.mono hvw.size))
  have HU := Lib.hid (runit_any (w.alloc (.cells #[.int .i64 0, .string ⟨#[]⟩, .string ⟨#[]⟩, .int .i64 0, .int .i64 0, .string ⟨#[]⟩, .string ⟨#[]⟩, .slice none 0 0, .slice none 0 0, .slice none 0 0] 46)) us p A c (hl.sub (Below.sub HV0.out)))
  rcases unit_split us p with ⟨hi, hp⟩ | ⟨n, hn, hi, hp⟩
  · have HF := Lib.hid (show findP us p s = none by unfold findP; rw [hp]; rfl)
    rw [hi] at HU
    clear hl hvw hi hp
    go_enter Try.func32, Try.ntmps32
    go_wp2_with fail
    refine HU.out.mono ?_
    rintro e w' ⟨rfl, rfl⟩
    go_wp2_with fail
    refine bodyPost_ret (v := .tuple #[.agg #[.int .i64 0, .string ⟨#[]⟩, .string ⟨#[]⟩, .int .i64 0, .int .i64 0, .string ⟨#[]⟩, .string ⟨#[]⟩, .slice none 0 0, .slice none 0 0, .slice none 0 0], .bool false]) ?_ rfl ?_
    · simp [results, Try.results32, go_sem]
    · exact ⟨_, by rw [HF.out]; rfl, by rw [HF.out]; exact dcl0_vals v, HB0.out⟩
  rw [hi] at HU
  have HFE := Lib.hid (show findP us p s = us[n].decls.find? (isD s) by unfold findP; rw [hp])
  obtain ⟨bu, ou, hA, A1, c1, A2, c2, A3, c3, e0, e1, e2, e3, q0, q1, q2, q3⟩ := Un.at HL.out.2.2.2 n hn
  subst hA
  have g2 := Below.sub HV0.out _ _ e2
  have HDL := Lib.hid q2
  have hrd := q2.2.2.1
  unfold Reach at hrd
  have hn' : (n : Int) < us.length := by omega
  have hnn : ¬ (n : Int) < 0 := by omega
  clear hl hvw hi hp e0 e1 e2 e3 q0 q1 q2 q3
  go_enter Try.func32, Try.ntmps32
  go_wp2_with fail
  refine HU.out.mono ?_
  rintro e w' ⟨rfl, rfl⟩
  go_wp2_with fail
  go_loop [9] (fun i => ∃ k : Nat, k ≤ us[n].decls.length ∧ i = .int .i64 k ∧ (∀ j (hj : j < us[n].decls.length), j < k → isD s us[n].decls[j] = false)) (fun i => us[n].decls.length - (intOf i).toNat)
  case atStart => exact ⟨0, Nat.zero_le _, rfl, fun j _ h => absurd h (Nat.not_lt_zero _)⟩
  case round =>
    obtain ⟨k, hk, rfl, hno⟩ := hrel
    have HNO := Lib.hid hno; clear hno
    by_cases hlt : k < us[n].decls.length
    · have hlt' : (k : Int) < us[n].decls.length := by omega
      obtain ⟨bb, o, hA, A7, c7, A8, c8, A9, c9, e0, e1, e2, e3, e4, e5, e6, e7, e8, e9, q0, q1, q2, q3, q4, q5, q6, q7, q8, q9⟩ := Dcl.at HDL.out.2.2.2 k hlt
      subst hA
      have hsub := Below.sub HV0.out
      have f0 := hsub _ _ e0; have f1 := hsub _ _ e1; have f2 := hsub _ _ e2; have f3 := hsub _ _ e3; have f4 := hsub _ _ e4; have f5 := hsub _ _ e5; have f6 := hsub _ _ e6; have f7 := hsub _ _ e7; have f8 := hsub _ _ e8; have f9 := hsub _ _ e9
      have HV := Lib.hid (Dcl.shut (w := v) (t := us[n].decls[k]) q0 q1 q2 q3 q4 q5 q6 q7 q8 q9)
      clear hsub e0 e1 e2 e3 e4 e5 e6 e7 e8 e9 q0 q1 q2 q3 q4 q5 q6 q7 q8 q9
      cases z : isD s us[n].decls[k] with
      | true =>
        have HF := Lib.hid (show findP us p s = some us[n].decls[k] by rw [HFE.out, find_hit hlt HNO.out z])
        unfold isD at z
        rw [Bool.and_eq_true] at z
        have zn := z.2
        have z6 : (us[n].decls[k].kind != 6) = true := z.1
        clear z
        go_wp2_with fail
        refine bodyPost_ret (v := .tuple #[.agg #[.int .i64 us[n].decls[k].kind, .string us[n].decls[k].name, .string us[n].decls[k].of, .int .i64 us[n].decls[k].value, .int .i64 us[n].decls[k].type.kind, .string us[n].decls[k].type.pkg, .string us[n].decls[k].type.name, .slice A7 us[n].decls[k].type.args.length c7, .slice A8 us[n].decls[k].type.res.length c8, .slice A9 us[n].decls[k].fields.length c9], .bool true]) ?_ rfl ?_
        · simp [results, Try.results32, go_sem]
        · exact ⟨_, by rw [HF.out]; rfl, by rw [HF.out]; exact HV.out, (Below.refl w.heap.size w).alloc (Nat.le_refl _) _⟩
      | false =>
        have HN2 := Lib.hid (show ∀ j (hj : j < us[n].decls.length), j < k + 1 → isD s us[n].decls[j] = false from fun j hj h => by
          by_cases e : j = k
          · subst e; exact z
          · exact HNO.out j hj (by omega))
        unfold isD at z
        cases zn : (us[n].decls[k].name.toList == s.toList) with
        | false =>
          clear z
          go_wp2_with fail
          go_round
          case rel => exact ⟨k + 1, by omega, by go_num, HN2.out⟩
          case measure => simp [intOf]; omega
        | true =>
          rw [zn, Bool.and_true] at z
          have z6 : (us[n].decls[k].kind != 6) = false := z
          clear z
          go_wp2_with fail
          go_round
          case rel => exact ⟨k + 1, by omega, by go_num, HN2.out⟩
          case measure => simp [intOf]; omega
    · obtain rfl : k = us[n].decls.length := by omega
      have hlt' : ¬ (us[n].decls.length : Int) < us[n].decls.length := by omega
      have HF := Lib.hid (show findP us p s = none by rw [HFE.out, find_miss (fun j hj => HNO.out j hj hj)])
      go_wp2_with fail
      refine bodyPost_ret (v := .tuple #[.agg #[.int .i64 0, .string ⟨#[]⟩, .string ⟨#[]⟩, .int .i64 0, .int .i64 0, .string ⟨#[]⟩, .string ⟨#[]⟩, .slice none 0 0, .slice none 0 0, .slice none 0 0], .bool false]) ?_ rfl ?_
      · simp [results, Try.results32, go_sem]
      · exact ⟨_, by rw [HF.out]; rfl, by rw [HF.out]; exact dcl0_vals v, HB0.out⟩
end Go.Proofs.Ytiecbgclkdlpkaa
