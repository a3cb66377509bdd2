/-
  The walk of kinds.Infer: the types that names must have, in memory of their own. The conditions: what is handed in reads; it is not too great.
-/
import Derived.Test.YtiecbgclkdlpkaaKInf
import Derived.Test.YtiecbgclkdlpkaaKCopied
namespace Go.Proofs.Ytiecbgclkdlpkaa
open Go.RowKit
set_option linter.unusedVariables false
set_option linter.unusedSimpArgs false

/-- What is found for names, one behind the other. -/
def inferGo (m : TyM) : List ByteArray → Option (List Ty)
  | [] => some []
  | n :: ns => match m n with
    | none => none
    | some t => if (decide (t.kind = 4) || decide (t.kind = 0)) = true then none else (inferGo m ns).map (t :: ·)
def inferP (names : List ByteArray) (ps qs : List Ty) : Option (List Ty) := inferGo (infL names ps qs fun _ => none) names
def allM (p : Ty → Prop) (m : TyM) : Prop := ∀ s t, m s = some t → p t
def PreT (p : Ty → Prop) : Prop := ∀ t, p t → (∀ x ∈ t.args, p x) ∧ ∀ x ∈ t.res, p x
mutual
theorem infT_all {p : Ty → Prop} (hp : PreT p) (names : List ByteArray) : ∀ (x a : Ty) (m : TyM), p a → allM p m → allM p (infT names x a m)
  | .mk k g n xs ys, a, m, ha, hm => by
    rw [infT_eq]
    split
    · split
      · exact hm
      · intro s t h
        unfold setT at h
        split at h
        · injection h with h; exact h ▸ ha
        · exact hm s t h
    · split
      · exact infL_all hp names ys a.res _ (hp a ha).2 (infL_all hp names xs a.args m (hp a ha).1 hm)
      · exact hm
theorem infL_all {p : Ty → Prop} (hp : PreT p) (names : List ByteArray) : ∀ (ps qs : List Ty) (m : TyM), (∀ x ∈ qs, p x) → allM p m → allM p (infL names ps qs m)
  | [], _, m, _, hm => by simpa [infL] using hm
  | x :: ps, qs, m, hq, hm => by
    cases qs with
    | nil => simpa [infL] using hm
    | cons a qs =>
      simp only [infL]
      exact infL_all hp names ps qs _ (fun y hy => hq y (List.mem_cons_of_mem _ hy)) (infT_all hp names x a m (hq a (List.mem_cons_self ..)) hm)
end
theorem pre_sz (n : Nat) : PreT fun t => t.sz ≤ n := fun t h => ⟨fun x hx => by have := Ty.mem_sz hx; have := Ty.sz_eq t; omega, fun x hx => by have := Ty.mem_sz hx; have := Ty.sz_eq t; omega⟩

def InferR (w : World) (r : Option (List Ty)) (e : Ending) (w' : World) : Prop :=
  (r = none ∧ e = .returned (.tuple #[.slice none 0 0, .bool false]) ∧ Below w.heap.size w w') ∨
  ∃ ts A c, r = some ts ∧ e = .returned (.tuple #[.slice A ts.length c, .bool true]) ∧ SL (NewW w.heap.size none w') 5 (Ty.ds ts) ts.length A c ∧ Below w.heap.size w w'

set_option maxRecDepth 100000 in
set_option maxHeartbeats 6400000 in
theorem infer_any (w : World) (names : List ByteArray) (ps qs : List Ty) (An Ap Aa : Option Addr) (cn cp ca : Nat) (hn : SL w 1 (strs names) names.length An cn) (hp : SL w 5 (Ty.ds ps) ps.length Ap cp) (ha : SL w 5 (Ty.ds qs) qs.length Aa ca)
    (hnl : names.length ≤ 1000000) (hsz : ∀ x ∈ qs, x.sz ≤ 1000000) :
    Calls Try.prog 22 #[.slice An names.length cn, .slice Ap ps.length cp, .slice Aa qs.length ca] w (InferR w (inferP names ps qs)) := by
  obtain ⟨m, hm⟩ : ∃ m, m = infL names ps qs (fun _ => none) := ⟨_, rfl⟩
  have HIN := Lib.hid (show inferP names ps qs = inferGo m names by rw [hm]; rfl)
  have HME := Lib.hid hm
  have HSZ := Lib.hid (show allM (fun t => t.sz ≤ 1000000) m by rw [hm]; exact infL_all (pre_sz _) names ps qs _ hsz (fun s t h => by cases h))
  clear hm hsz
  have HB0 := Lib.hid ((Below.refl w.heap.size w).alloc (Nat.le_refl _) (.map #[] 0))
  have HS0 := Lib.hid (show InfS w (w.alloc (.map #[] 0)) w.heap.size (fun _ => none) from ⟨HB0.out, Nat.le_refl _, _, MapS.made w .string _, fun s => .inl ⟨rfl, rfl⟩⟩)
  have HN := Lib.hid hn; have HP := Lib.hid hp; have HA := Lib.hid ha; have HNL := Lib.hid hnl
  clear hn hp ha hnl
  have hmm := @run_makeMap Try.prog
  go_enter Try.func22, Try.ntmps22
  go_wp2_with fail
  refine (infOne w w.heap.size names ps (w.alloc (.map #[] 0)) qs _ An Ap Aa cn cp ca HS0.out HN.out HP.out HA.out).mono ?_
  rw [← HME.out]
  rintro e w1 ⟨rfl, hs, hc⟩
  obtain ⟨mv, hm1, hm2⟩ := hs.map
  have HBW := Lib.hid hs.below; have HMS := Lib.hid hm1; have HMR := Lib.hid (show RelT w m mv from hm2)
  have HBL := Lib.hid hs.lt
  clear hs hc hm1 hm2
  have hnlt : (names.length : Int) ≤ 1000000 := by have := HNL.out; omega
  go_wp2_with fail
  go_loopw [9, 22] (fun v i wr => ∃ (k : Nat) (ys : List Ty) (segs : List (List Value)), k ≤ names.length ∧ ys.length = k ∧ i = .int .i64 k ∧ inferGo m names = (inferGo m (names.drop k)).map (ys ++ ·) ∧ EachRow w1 wr Ty.d 5 26 v ys segs) (fun v i _ => names.length - (intOf i).toNat)
  case atStart => exact ⟨0, [], [], Nat.zero_le _, rfl, rfl, by rw [List.drop_zero]; cases inferGo m names <;> rfl, EachRow.start w1 _ _ _⟩
  case round =>
    obtain ⟨k, ys, segs, hk, hyl, rfl, hgo, hw⟩ := hrel
    obtain ⟨A', c', rfl⟩ := own_slice hw.own
    have HYL := Lib.hid hyl; have HGO := Lib.hid hgo; have HW := Lib.hid hw
    have HBR := Lib.hid (HBW.out.trans (hw.chg.below.mono HBW.out.size))
    clear hyl hgo hw
    by_cases hlt : k < names.length
    case neg =>
      obtain rfl : k = names.length := by omega
      have HE := Lib.hid (show inferP names ps qs = some ys by rw [HIN.out, HGO.out, List.drop_length]; simp [inferGo])
      rw [HYL.out]
      have hnlt' : ¬ (names.length : Int) < names.length := by omega
      go_wp2_with fail
      refine bodyPost_ret (results_tmp2 rfl _ _ _) rfl ?_
      have hd := HW.out.done (by have := HYL.out; have := HNL.out; unfold Reach; omega)
      obtain ⟨A, c, he, hdv, _, hb⟩ := hd
      injection he with he
      injection he with ea _ ec
      subst ea ec
      refine .inr ⟨ys, _, _, HE.out, ?_, (new_sl hdv).low HBW.out.size, HBR.out⟩
      rw [HYL.out]
      rfl
    have hlt' : (k : Int) < names.length := by omega
    obtain ⟨bn, on, hAn, hcn, hns⟩ := strs_at (HN.out.sub (Below.sub HBR.out)).2.2.2 k hlt
    subst hAn
    have HMSr := Lib.hid (HMS.out.keep (HW.out.chg.block _ HBL.out id))
    have HDR := Lib.hid (List.drop_eq_getElem_cons hlt)
    rcases HMR.out names[k] with ⟨hm0, hv0⟩ | ⟨t, vs, hm0, hv0, hvt⟩
    · have HMV := Lib.hid hv0
      have HE := Lib.hid (show inferP names ps qs = none by rw [HIN.out, HGO.out, HDR.out]; simp [inferGo, hm0])
      clear hm0 hv0
      go_wp2_with (at_lookup; refine wpList_lookup_map _ rfl _ _ true rfl (keyStr Try.underlying9) Try.underlying71 (zeroTy _) HMSr.out names[k] rfl rfl ?_; rw [HMV.out])
      refine bodyPost_ret (results_tmp2 rfl _ _ _) rfl ?_
      exact .inl ⟨HE.out, rfl, HBR.out.alloc HBR.out.size _⟩
    · obtain ⟨E3, x3, E4, x4, rfl, q0, q1, q2, q3, q4⟩ := Ty.opn hvt
      have HMV := Lib.hid hv0
      have HMM := Lib.hid hm0
      have HVT := Lib.hid hvt
      clear hm0 hv0 hvt q0 q1 q2 q3 q4
      by_cases hbad : t.kind = 4 ∨ t.kind = 0
      · have HE := Lib.hid (show inferP names ps qs = none by rw [HIN.out, HGO.out, HDR.out]; simp [inferGo, HMM.out, hbad])
        have kb : ∃ b4 b0 : Bool, (t.kind == 4) = b4 ∧ (t.kind == 0) = b0 ∧ (b4 = true ∨ (b4 = false ∧ b0 = true)) := ⟨_, _, rfl, rfl, by
          rcases hbad with h | h
          · exact .inl (by simp [h])
          · exact .inr ⟨by simp [h], by simp [h]⟩⟩
        obtain ⟨b4, b0, kb4, kb0, h40⟩ := kb
        clear hbad
        rcases h40 with rfl | ⟨rfl, rfl⟩
        all_goals
          go_wp2_with (at_lookup; refine wpList_lookup_map _ rfl _ _ true rfl (keyStr Try.underlying9) Try.underlying71 (zeroTy _) HMSr.out names[k] rfl rfl ?_; rw [HMV.out])
          refine bodyPost_ret (results_tmp2 rfl _ _ _) rfl ?_
          exact .inl ⟨HE.out, rfl, HBR.out.alloc HBR.out.size _⟩
      have kb4 : (t.kind == 4) = false := by simp; omega
      have kb0 : (t.kind == 0) = false := by simp; omega
      clear hbad
      go_wp2_with (at_lookup; refine wpList_lookup_map _ rfl _ _ true rfl (keyStr Try.underlying9) Try.underlying71 (zeroTy _) HMSr.out names[k] rfl rfl ?_; rw [HMV.out])
      have HAL := Lib.hid ((Chg.refl (fun _ => False) wr).alloc (.cells #[.int .i64 t.kind, .string t.pkg, .string t.name, .slice E3 t.args.length x3, .slice E4 t.res.length x4] 26))
      refine (copTy t (HSZ.out _ _ HMM.out) (wr.alloc (.cells #[.int .i64 t.kind, .string t.pkg, .string t.name, .slice E3 t.args.length x3, .slice E4 t.res.length x4] 26)) _ ((HVT.out.sub (Below.sub HBR.out)).sub (Below.sub HAL.out.below))).mono ?_
      rintro e w2 ⟨vs, rfl, hv, hb2⟩
      have HV := Lib.hid (hv.sub (new_mono (n := wr.heap.size) (by simp) _ _))
      obtain ⟨B3, d3, B4, d4, rfl, y0, y1, y2, y3, y4⟩ := Ty.opn hv
      have HC2 := Lib.hid (HAL.out.trans (below_none hb2) (fun _ _ q => q))
      clear hv hb2 y0 y1 y2 y3 y4
      have hA : Chg (fun _ => False) w2 (w2.alloc (.cells #[.int .i64 t.kind, .string t.pkg, .string t.name, .slice B3 t.args.length d3, .slice B4 t.res.length d4] 26)) := (Chg.refl _ _).alloc _
      have HOA := Lib.hid (own_grows hA (own_grows HC2.out HW.out.own))
      have HSS := Lib.hid (show w1.heap.size ≤ (w2.alloc (.cells #[.int .i64 t.kind, .string t.pkg, .string t.name, .slice B3 t.args.length d3, .slice B4 t.res.length d4] 26)).heap.size from Nat.le_trans (Nat.le_trans HW.out.chg.size HC2.out.size) hA.size)
      have HNE := Lib.hid (show ∀ (j : Nat) (u : Value), ([.int .i64 t.kind, .string t.pkg, .string t.name, .slice B3 t.args.length d3, .slice B4 t.res.length d4] : List Value)[j]? = some u → (w2.alloc (.cells #[.int .i64 t.kind, .string t.pkg, .string t.name, .slice B3 t.args.length d3, .slice B4 t.res.length d4] 26)).cell? ⟨w2.heap.size, j, none⟩ = some u from fun j u q => by rw [cell_at (alloc_at w2 _)]; simpa using q)
      have HONE := Lib.hid (show ∀ u ∈ ([.int .i64 t.kind, .string t.pkg, .string t.name, .slice B3 t.args.length d3, .slice B4 t.res.length d4] : List Value), u.oneCell' = true from fun u q => by simp at q; rcases q with rfl | rfl | rfl | rfl | rfl <;> rfl)
      have HLN := Lib.hid (show (ys.length + 1) * 88 ≤ 140737488355328 by have := HYL.out; omega)
      have HLM := Lib.hid (show ys.length + 1 ≤ maxLen by have := HYL.out; unfold maxLen; omega)
      have HNX := Lib.hid (show inferGo m names = (inferGo m (names.drop (k + 1))).map (ys ++ [t] ++ ·) by
        rw [HGO.out, HDR.out]; simp only [inferGo, HMM.out]
        have h4 : ¬ t.kind = 4 := by simpa using kb4
        have h0 : ¬ t.kind = 0 := by simpa using kb0
        rw [if_neg (by simp [h4, h0])]
        cases inferGo m (names.drop (k + 1)) <;> simp)
      have HAA := Lib.hid hA
      clear hA
      go_wp2_with (at_builtin; go_loud (refine wpList_append_rec _ rfl _ _ 24 rfl w1.heap.size 26 (.agg #[.int .i64 0, .string ⟨#[]⟩, .string ⟨#[]⟩, .slice none 0 0, .slice none 0 0]) 5 88 Try.infnTy Try.underlying24 rfl (by omega) (.slice A' ys.length c') ys.length segs.flatten rfl HOA.out w2.heap.size 1 ([.int .i64 t.kind, .string t.pkg, .string t.name, .slice B3 t.args.length d3, .slice B4 t.res.length d4]) rfl rfl HNE.out HONE.out HLN.out HLM.out HSS.out ?_; intro v1 w3 h1 g1 r1; have HN2 := Lib.hid (EachRow.next (y := t) (v' := v1) (w' := w3) HW.out HC2.out HV.out rfl HAA.out h1 g1 r1); obtain ⟨A1, k1, rfl⟩ := own_slice h1; clear h1 g1 r1))
      go_roundw
      case rel => exact ⟨k + 1, ys ++ [t], _, by omega, by simp [HYL.out], by go_num, HNX.out, HN2.out⟩
      case measure => simp [intOf]; omega
end Go.Proofs.Ytiecbgclkdlpkaa
