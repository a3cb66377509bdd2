/-
  The walk of kinds.infers: what types variables have. The conditions: what is handed in reads; the map lies in memory of the call's own.
-/
import Derived.Test.YtiecbgclkdlpkaaKIdx
import Derived.Test.YtiecbgclkdlpkaaMap
import Derived.Test.YtiecbgclkdlpkaaHeldT
namespace Go.Proofs.Ytiecbgclkdlpkaa
open Go.RowKit
set_option linter.unusedVariables false
set_option linter.unusedSimpArgs false
attribute [local irreducible] wpStill wpOrd wpT

abbrev TyM := ByteArray → Option Ty
def setT (m : TyM) (k : ByteArray) (t : Ty) : TyM := fun a => if (a.toList == k.toList) = true then some t else m a
mutual
/-- What a pair of types finds. -/
def infT (names : List ByteArray) : Ty → Ty → TyM → TyM
  | .mk k _ n xs ys, a, m => if (decide (k = 9) && decide (placeN names n < names.length)) = true then (if (m n).isSome = true then m else setT m n a)
      else if (decide (k = a.kind) && (decide (k = 6) || decide (k = 7))) = true then infL names ys a.res (infL names xs a.args m) else m
def infL (names : List ByteArray) : List Ty → List Ty → TyM → TyM
  | [], _, m => m
  | p :: ps, l, m => match l with
    | [] => m
    | a :: qs => infL names ps qs (infT names p a m)
end
theorem infL_nil (names : List ByteArray) (l : List Ty) (m : TyM) : infL names l [] m = m := by cases l <;> simp [infL]
theorem infT_eq (names : List ByteArray) (p a : Ty) (m : TyM) : infT names p a m = if (decide (p.kind = 9) && decide (placeN names p.name < names.length)) = true then (if (m p.name).isSome = true then m else setT m p.name a)
      else if (decide (p.kind = a.kind) && (decide (p.kind = 6) || decide (p.kind = 7))) = true then infL names p.res a.res (infL names p.args a.args m) else m := by cases p; cases a; rfl

/-- The map holds these types, qs they read in W0. -/
def MapT (W0 w : World) (b : Nat) (m : TyM) : Prop := ∃ mv, MapS w b .string (fun s : ByteArray => Value.string s) mv ∧ ∀ s, (m s = none ∧ mv s = none) ∨ ∃ t vs, m s = some t ∧ mv s = some (.agg vs.toArray) ∧ Vals W0 t.d vs
structure InfS (W0 w : World) (b : Nat) (m : TyM) : Prop where
  below : Below W0.heap.size W0 w
  hi : W0.heap.size ≤ b
  map : MapT W0 w b m
theorem InfS.lt {W0 w : World} {b : Nat} {m : TyM} (h : InfS W0 w b m) : b < w.heap.size := by
  obtain ⟨mv, h1, _⟩ := h.map
  exact h1.lt
theorem InfS.keep {W0 w w' : World} {b : Nat} {m : TyM} (h : InfS W0 w b m) (k : Chg (fun _ => False) w w') : InfS W0 w' b m := by
  obtain ⟨mv, h1, h2⟩ := h.map
  exact ⟨Below.chg h.below k h.below.size (fun _ q => q.elim), h.hi, mv, h1.keep (k.block b h1.lt id), h2⟩
def InfP (W0 w : World) (b : Nat) (m' : TyM) (e : Ending) (w' : World) : Prop := e = .returned (.tuple #[]) ∧ InfS W0 w' b m' ∧ Chg (fun j => j = b) w w'

def InfOne (W0 : World) (b : Nat) (names : List ByteArray) (ps : List Ty) : Prop := ∀ (w : World) (qs : List Ty) (m : TyM) (An Ap Aa : Option Addr) (cn cp ca : Nat), InfS W0 w b m → SL W0 1 (strs names) names.length An cn → SL W0 5 (Ty.ds ps) ps.length Ap cp → SL W0 5 (Ty.ds qs) qs.length Aa ca →
  Calls Try.prog 47 #[.map (some b), .slice An names.length cn, .slice Ap ps.length cp, .slice Aa qs.length ca] w (InfP W0 w b (infL names ps qs m))

theorem infL_end (names : List ByteArray) (ps qs : List Ty) (m : TyM) (h : ps = [] ∨ qs = []) : infL names ps qs m = m := by
  rcases h with rfl | rfl
  · simp [infL]
  · exact infL_nil names ps m
theorem zeroTy (w : World) : (zeroValue 26).run Try.prog w = .ok (.agg #[.int .i64 0, .string ⟨#[]⟩, .string ⟨#[]⟩, .slice none 0 0, .slice none 0 0]) w := by kernel_rfl
def RelT (W0 : World) (m : TyM) (mv : ByteArray → Option Value) : Prop := ∀ s, (m s = none ∧ mv s = none) ∨ ∃ t vs, m s = some t ∧ mv s = some (.agg vs.toArray) ∧ Vals W0 t.d vs
theorem MapT.set {W0 w' : World} {b : Nat} {m : TyM} {mv : ByteArray → Option Value} (h2 : RelT W0 m mv) {n : ByteArray} {t : Ty} {vs : List Value}
    (h : MapS w' b .string (fun s : ByteArray => Value.string s) (updM (fun a b => a.toList == b.toList) mv n (.agg vs.toArray))) (hv : Vals W0 t.d vs) : MapT W0 w' b (setT m n t) := by
  refine ⟨_, h, fun s => ?_⟩
  unfold setT updM
  by_cases hs : (s.toList == n.toList) = true
  · rw [if_pos hs, if_pos hs]
    exact .inr ⟨t, vs, rfl, rfl, hv⟩
  · rw [if_neg hs, if_neg hs]
    exact h2 s
set_option maxRecDepth 100000 in
set_option maxHeartbeats 6400000 in
theorem infers_lt (W0 : World) (b : Nat) (names : List ByteArray) (ps qs : List Ty) (hmin : qs.length < ps.length) (o_args : ∀ p ∈ ps, InfOne W0 b names p.args) (o_res : ∀ p ∈ ps, InfOne W0 b names p.res) (w : World) (m : TyM) (An Ap Aa : Option Addr) (cn cp ca : Nat)
    (hw : InfS W0 w b m) (hn : SL W0 1 (strs names) names.length An cn) (hp : SL W0 5 (Ty.ds ps) ps.length Ap cp) (ha : SL W0 5 (Ty.ds qs) qs.length Aa ca) :
    Calls Try.prog 47 #[.map (some b), .slice An names.length cn, .slice Ap ps.length cp, .slice Aa qs.length ca] w (InfP W0 w b (infL names ps qs m)) := by
  have hnr := hn.2.2.1; have hpr := hp.2.2.1; have har := ha.2.2.1
  unfold Reach at hnr hpr har
  have HI := Lib.hid hw; have HN := Lib.hid hn; have HPS := Lib.hid hp; have HAS := Lib.hid ha
  have OA := Lib.hid o_args; have OR := Lib.hid o_res
  clear hw hn hp ha o_args o_res
  go_enter Try.func47, Try.ntmps47
  go_wp2_with fail
  have HM := Lib.hid hmin; clear hmin
  go_loopw [18] (fun i wr => ∃ (k : Nat) (m' : TyM), k ≤ qs.length ∧ i = .int .i64 k ∧ InfS W0 wr b m' ∧ Chg (fun j => j = b) w wr ∧ infL names (ps.drop k) (qs.drop k) m' = infL names ps qs m) (fun i _ => qs.length - (intOf i).toNat)
  case atStart => exact ⟨0, m, Nat.zero_le _, rfl, HI.out, Chg.refl _ _, rfl⟩
  case round =>
    obtain ⟨k, m', hk, rfl, hS, hC, hL⟩ := hrel
    have HS := Lib.hid hS; have HC := Lib.hid hC; have HL := Lib.hid hL
    clear hS hC hL
    by_cases hlt : k < qs.length
    case neg =>
      have hlt' : ¬ (k : Int) < qs.length := by omega
      have HE := Lib.hid (show m' = infL names ps qs m by
        rw [← HL.out]
        exact (infL_end names _ _ _ (by have := HM.out; simp only [List.drop_eq_nil_iff]; omega)).symm)
      go_wp2_with fail
      go_end0
      exact ⟨rfl, by rw [← HE.out]; exact HS.out, HC.out⟩
    have hlt' : (k : Int) < qs.length := by omega
    have hkp : k < ps.length := by have := HM.out; omega
    have hkq : k < qs.length := by have := HM.out; omega
    have hkp' : (k : Int) < ps.length := by omega
    have hkq' : (k : Int) < qs.length := by omega
    obtain ⟨bp, op, hAp, A3, c3, A4, c4, e0, e1, e2, e3, e4, z0, z1, z2, z3, z4⟩ := Ty.at HPS.out.2.2.2 k hkp
    obtain ⟨bq, oq, hAq, B3, d3, B4, d4, g0, g1, g2, g3, g4, y0, y1, y2, y3, y4⟩ := Ty.at HAS.out.2.2.2 k hkq
    subst hAp hAq
    have hsub := Below.sub HS.out.below
    have f0 := hsub _ _ e0; have f1 := hsub _ _ e1; have f2 := hsub _ _ e2; have f3 := hsub _ _ e3; have f4 := hsub _ _ e4
    have h0 := hsub _ _ g0; have h1 := hsub _ _ g1; have h2 := hsub _ _ g2; have h3 := hsub _ _ g3; have h4 := hsub _ _ g4
    have HZ3 := Lib.hid z3; have HZ4 := Lib.hid z4; have HY3 := Lib.hid y3; have HY4 := Lib.hid y4
    have HVQ := Lib.hid (Ty.shut (w := W0) (t := qs[k]) y0 y1 y2 y3 y4)
    have HKP := Lib.hid (List.getElem_mem hkp)
    have HST := Lib.hid (show infL names (ps.drop (k + 1)) (qs.drop (k + 1)) (infT names ps[k] qs[k] m') = infL names ps qs m by
      rw [← HL.out, List.drop_eq_getElem_cons hkp, List.drop_eq_getElem_cons hkq]; simp only [infL])
    have HKK := Lib.hid (And.intro (show k + 1 ≤ qs.length by omega) trivial)
    clear hsub e0 e1 e2 e3 e4 g0 g1 g2 g3 g4 z0 z1 z2 z3 z4 y0 y1 y2 y3 y4
    go_wp2_with fail
    refine wp_region_otN (fun wS => Below wr.heap.size wr wS) (.get 0 (.get 1 (.get 2 (.get 3 (.get 4 (.get 5 (.get 6 (.get 7 (.two 8 (.one 9 (.one 10 (.one 11 .done))) 9 (.one 8 (.one 10 (.one 11 .done)))))))))))) (by kernel_rfl) (by kernel_rfl) (Below.drew (Below.refl _ _)) ?_
    apply wpT_get rfl
    · go_simp
    · intro wS hS
      go_simp
      try rfl
    intro K hK
    go_simp
    refine hK _ ?_
    clear hK K
    apply wpT_get rfl
    · go_simp
    · intro wS hS
      go_simp
      try rfl
    intro K hK
    go_simp
    refine hK _ ?_
    clear hK K
    apply wpT_get rfl
    · go_simp
    · intro wS hS
      go_simp
      try rfl
    intro K hK
    go_simp
    refine hK _ ?_
    clear hK K
    apply wpT_get rfl
    · go_simp
    · intro wS hS
      have x0 := Below.sub hS _ _ f0; have x1 := Below.sub hS _ _ f1; have x2 := Below.sub hS _ _ f2; have x3 := Below.sub hS _ _ f3; have x4 := Below.sub hS _ _ f4
      go_simp
      try rfl
    intro K hK
    go_simp
    refine hK _ ?_
    clear hK K
    apply wpT_get rfl
    · go_simp
    · intro wS hS
      go_simp
      try rfl
    intro K hK
    go_simp
    refine hK _ ?_
    clear hK K
    apply wpT_get rfl
    · go_simp
    · intro wS hS
      go_simp
      try rfl
    intro K hK
    go_simp
    refine hK _ ?_
    clear hK K
    apply wpT_get rfl
    · go_simp
    · intro wS hS
      go_simp
      try rfl
    intro K hK
    go_simp
    refine hK _ ?_
    clear hK K
    apply wpT_get rfl
    · go_simp
    · intro wS hS
      have x0 := Below.sub hS _ _ h0; have x1 := Below.sub hS _ _ h1; have x2 := Below.sub hS _ _ h2; have x3 := Below.sub hS _ _ h3; have x4 := Below.sub hS _ _ h4
      go_simp
      try rfl
    intro K hK
    go_simp
    refine hK _ ?_
    clear hK K
    refine wpT_two rfl rfl (fun K hK => ?_) (fun K hK => ?_)
    case refine_1 =>
      go_wp2_with fail
      refine hK _ _ ((Below.refl wr.heap.size wr).alloc (Nat.le_refl _) _).drew ?_
      clear hK K
      refine wpT_one rfl (fun K hK => ?_)
      go_wp2_with fail
      refine hK _ _ (((Below.refl wr.heap.size wr).alloc (Nat.le_refl _) _).alloc (by simp) _).drew ?_
      clear hK K
      refine wpT_one rfl (fun K hK => ?_)
      go_wp2_with fail
      refine hK _ _ (((Below.refl wr.heap.size wr).alloc (Nat.le_refl _) _).alloc (by simp) _).drew ?_
      clear hK K
      refine wpT_one rfl (fun K hK => ?_)
      go_wp2_with fail
      refine hK _ _ (((Below.refl wr.heap.size wr).alloc (Nat.le_refl _) _).alloc (by simp) _).drew ?_
      clear hK K
      refine wpT_doneN ?_
      have hcw : Chg (fun _ => False) wr ((wr.alloc (.cells #[.int .i64 ps[k].kind, .string ps[k].pkg, .string ps[k].name, .slice A3 ps[k].args.length c3, .slice A4 ps[k].res.length c4] 26)).alloc (.cells #[.int .i64 qs[k].kind, .string qs[k].pkg, .string qs[k].name, .slice B3 qs[k].args.length d3, .slice B4 qs[k].res.length d4] 26)).drew := (((Chg.refl _ _).alloc _).alloc _).drew
      have HS2 := Lib.hid (HS.out.keep hcw); have HC2 := Lib.hid (HC.out.trans hcw (fun _ _ q => q.elim)); clear hcw
      obtain ⟨mv, hm1, hm2⟩ := HS2.out.map
      have HMS := Lib.hid hm1; have HMR := Lib.hid (show RelT W0 m' mv from hm2); clear hm1 hm2
      have HNW := Lib.hid (HN.out.sub (Below.sub HS2.out.below))
      have HPB := Lib.hid (show ((wr.alloc (.cells #[.int .i64 ps[k].kind, .string ps[k].pkg, .string ps[k].name, .slice A3 ps[k].args.length c3, .slice A4 ps[k].res.length c4] 26)).alloc (.cells #[.int .i64 qs[k].kind, .string qs[k].pkg, .string qs[k].name, .slice B3 qs[k].args.length d3, .slice B4 qs[k].res.length d4] 26)).drew.heap[wr.heap.size]? = some (.cells #[.int .i64 ps[k].kind, .string ps[k].pkg, .string ps[k].name, .slice A3 ps[k].args.length c3, .slice A4 ps[k].res.length c4] 26 (0, 0)) from alloc_old (alloc_at wr _) _)
      have HQB := Lib.hid (show ((wr.alloc (.cells #[.int .i64 ps[k].kind, .string ps[k].pkg, .string ps[k].name, .slice A3 ps[k].args.length c3, .slice A4 ps[k].res.length c4] 26)).alloc (.cells #[.int .i64 qs[k].kind, .string qs[k].pkg, .string qs[k].name, .slice B3 qs[k].args.length d3, .slice B4 qs[k].res.length d4] 26)).drew.heap[wr.heap.size + 1]? = some (.cells #[.int .i64 qs[k].kind, .string qs[k].pkg, .string qs[k].name, .slice B3 qs[k].args.length d3, .slice B4 qs[k].res.length d4] 26 (0, 0)) from by have := alloc_at (wr.alloc (.cells #[.int .i64 ps[k].kind, .string ps[k].pkg, .string ps[k].name, .slice A3 ps[k].args.length c3, .slice A4 ps[k].res.length c4] 26)) (.cells #[.int .i64 qs[k].kind, .string qs[k].pkg, .string qs[k].name, .slice B3 qs[k].args.length d3, .slice B4 qs[k].res.length d4] 26); rw [World.size_alloc] at this; exact this)
      have HBL := Lib.hid (show b < wr.heap.size from HS.out.lt)
      by_cases hk9 : ps[k].kind = 9
      case pos =>
        have kb9 : (ps[k].kind == 9) = true := by simp [hk9]
        cases hcn : decide (placeN names ps[k].name < names.length) with
        | true =>
          have HCT := Lib.hid (contains_any _ names An cn HNW.out ps[k].name)
          rw [hcn] at HCT
          rcases HMR.out ps[k].name with ⟨hm0, hv0⟩ | ⟨t, vs, hm0, hv0, hvt⟩
          · have HIT := Lib.hid (show infT names ps[k] qs[k] m' = setT m' ps[k].name qs[k] by rw [infT_eq, if_pos (by rw [decide_eq_true hk9, hcn]; rfl), hm0]; rfl)
            have HMV := Lib.hid hv0
            have hcl : Chg (fun _ => False) ((wr.alloc (.cells #[.int .i64 ps[k].kind, .string ps[k].pkg, .string ps[k].name, .slice A3 ps[k].args.length c3, .slice A4 ps[k].res.length c4] 26)).alloc (.cells #[.int .i64 qs[k].kind, .string qs[k].pkg, .string qs[k].name, .slice B3 qs[k].args.length d3, .slice B4 qs[k].res.length d4] 26)).drew (((wr.alloc (.cells #[.int .i64 ps[k].kind, .string ps[k].pkg, .string ps[k].name, .slice A3 ps[k].args.length c3, .slice A4 ps[k].res.length c4] 26)).alloc (.cells #[.int .i64 qs[k].kind, .string qs[k].pkg, .string qs[k].name, .slice B3 qs[k].args.length d3, .slice B4 qs[k].res.length d4] 26)).alloc (.cells #[.int .i64 0, .string ⟨#[]⟩, .string ⟨#[]⟩, .slice none 0 0, .slice none 0 0] 26)).drew := (Chg.refl _ ((wr.alloc (.cells #[.int .i64 ps[k].kind, .string ps[k].pkg, .string ps[k].name, .slice A3 ps[k].args.length c3, .slice A4 ps[k].res.length c4] 26)).alloc (.cells #[.int .i64 qs[k].kind, .string qs[k].pkg, .string qs[k].name, .slice B3 qs[k].args.length d3, .slice B4 qs[k].res.length d4] 26)).drew).alloc _
            have HML := Lib.hid (HMS.out.keep (hcl.block b HMS.out.lt id))
            have HSL := Lib.hid (HS2.out.keep hcl); have HCL := Lib.hid (HC2.out.trans hcl (fun _ _ q => q.elim))
            clear hcn hk9 hm0 hv0 hcl
            go_wp2_with fail
            refine HCT.out.mono ?_
            rintro e w' ⟨rfl, rfl⟩
            go_wp2_with (first | (at_lookup; refine wpList_lookup_map _ rfl _ _ true rfl (keyStr Try.underlying9) Try.underlying71 (zeroTy _) HMS.out ps[k].name rfl rfl ?_; rw [HMV.out]) | (at_mapUpdate; refine wpList_update_map _ rfl _ _ _ rfl (keyStr Try.underlying9) Try.underlying71 HML.out ps[k].name (.agg #[.int .i64 qs[k].kind, .string qs[k].pkg, .string qs[k].name, .slice B3 qs[k].args.length d3, .slice B4 qs[k].res.length d4]) rfl rfl rfl ?_; intro w3 h3 hc3; have HM3 := Lib.hid h3; have HC3 := Lib.hid hc3; clear h3 hc3))
            have HS4 := Lib.hid (show InfS W0 w3 b (setT m' ps[k].name qs[k]) from ⟨Below.chg HSL.out.below HC3.out HSL.out.below.size (fun i e => e ▸ HS.out.hi), HS.out.hi, MapT.set HMR.out HM3.out HVQ.out⟩)
            have HC4 := Lib.hid (HCL.out.trans HC3.out (fun _ _ e => e))
            go_roundw
            case rel => exact ⟨k + 1, _, HKK.out.1, by go_num, HS4.out, HC4.out, by rw [← HST.out, HIT.out]⟩
            case measure => simp [intOf]; omega
          · have HIT := Lib.hid (show infT names ps[k] qs[k] m' = m' by rw [infT_eq, if_pos (by rw [decide_eq_true hk9, hcn]; rfl), hm0]; rfl)
            obtain ⟨E3, x3, E4, x4, rfl, _⟩ := Ty.opn hvt
            have HMV := Lib.hid (show mv ps[k].name = some (.agg #[.int .i64 t.kind, .string t.pkg, .string t.name, .slice E3 t.args.length x3, .slice E4 t.res.length x4]) from hv0)
            have hcl : Chg (fun _ => False) ((wr.alloc (.cells #[.int .i64 ps[k].kind, .string ps[k].pkg, .string ps[k].name, .slice A3 ps[k].args.length c3, .slice A4 ps[k].res.length c4] 26)).alloc (.cells #[.int .i64 qs[k].kind, .string qs[k].pkg, .string qs[k].name, .slice B3 qs[k].args.length d3, .slice B4 qs[k].res.length d4] 26)).drew (((wr.alloc (.cells #[.int .i64 ps[k].kind, .string ps[k].pkg, .string ps[k].name, .slice A3 ps[k].args.length c3, .slice A4 ps[k].res.length c4] 26)).alloc (.cells #[.int .i64 qs[k].kind, .string qs[k].pkg, .string qs[k].name, .slice B3 qs[k].args.length d3, .slice B4 qs[k].res.length d4] 26)).alloc (.cells #[.int .i64 t.kind, .string t.pkg, .string t.name, .slice E3 t.args.length x3, .slice E4 t.res.length x4] 26)).drew := (Chg.refl _ ((wr.alloc (.cells #[.int .i64 ps[k].kind, .string ps[k].pkg, .string ps[k].name, .slice A3 ps[k].args.length c3, .slice A4 ps[k].res.length c4] 26)).alloc (.cells #[.int .i64 qs[k].kind, .string qs[k].pkg, .string qs[k].name, .slice B3 qs[k].args.length d3, .slice B4 qs[k].res.length d4] 26)).drew).alloc _
            have HSL := Lib.hid (HS2.out.keep hcl); have HCL := Lib.hid (HC2.out.trans hcl (fun _ _ q => q.elim))
            clear hcn hk9 hm0 hv0 hvt hcl
            go_wp2_with fail
            refine HCT.out.mono ?_
            rintro e w' ⟨rfl, rfl⟩
            go_wp2_with (first | (at_lookup; refine wpList_lookup_map _ rfl _ _ true rfl (keyStr Try.underlying9) Try.underlying71 (zeroTy _) HMS.out ps[k].name rfl rfl ?_; rw [HMV.out]))
            go_roundw
            case rel => exact ⟨k + 1, _, HKK.out.1, by go_num, HSL.out, HCL.out, by rw [← HST.out, HIT.out]⟩
            case measure => simp [intOf]; omega
        | false =>
          have HCT := Lib.hid (contains_any _ names An cn HNW.out ps[k].name)
          rw [hcn] at HCT
          have HIT := Lib.hid (show infT names ps[k] qs[k] m' = m' by rw [infT_eq, if_neg (by rw [hcn, Bool.and_false]; simp), if_neg (by rw [hk9]; simp)])
          have kb6 : (ps[k].kind == 6) = false := by simp [hk9]
          have kb7 : (ps[k].kind == 7) = false := by simp [hk9]
          clear hcn hk9
          cases kbq : (ps[k].kind == qs[k].kind)
          all_goals
            go_wp2_with fail
            refine HCT.out.mono ?_
            rintro e w' ⟨rfl, rfl⟩
            go_wp2_with fail
            go_roundw
            case rel => exact ⟨k + 1, _, HKK.out.1, by go_num, HS2.out, HC2.out, by rw [← HST.out, HIT.out]⟩
            case measure => simp [intOf]; omega
      case neg =>
        have kb9 : (ps[k].kind == 9) = false := by simp [hk9]
        cases kbq : (ps[k].kind == qs[k].kind) with
        | false =>
          have HIT := Lib.hid (show infT names ps[k] qs[k] m' = m' by rw [infT_eq, if_neg (by rw [decide_eq_false hk9]; simp), if_neg (by rw [decide_eq_false (by simpa using kbq)]; simp)])
          clear hk9
          go_wp2_with fail
          go_roundw
          case rel => exact ⟨k + 1, _, HKK.out.1, by go_num, HS2.out, HC2.out, by rw [← HST.out, HIT.out]⟩
          case measure => simp [intOf]; omega
        | true =>
          by_cases hk67 : ps[k].kind = 6 ∨ ps[k].kind = 7
          case neg =>
            have kb6 : (ps[k].kind == 6) = false := by simp; omega
            have kb7 : (ps[k].kind == 7) = false := by simp; omega
            have HIT := Lib.hid (show infT names ps[k] qs[k] m' = m' by rw [infT_eq, if_neg (by rw [decide_eq_false hk9]; simp), if_neg (by rw [decide_eq_false (by omega : ¬ ps[k].kind = 6), decide_eq_false (by omega : ¬ ps[k].kind = 7)]; simp)])
            clear hk9 hk67
            go_wp2_with fail
            go_roundw
            case rel => exact ⟨k + 1, _, HKK.out.1, by go_num, HS2.out, HC2.out, by rw [← HST.out, HIT.out]⟩
            case measure => simp [intOf]; omega
          case pos =>
            have HIT := Lib.hid (show infT names ps[k] qs[k] m' = infL names ps[k].res qs[k].res (infL names ps[k].args qs[k].args m') by
              rw [infT_eq, if_neg (by rw [decide_eq_false hk9]; simp), if_pos (by rw [decide_eq_true (by simpa using kbq)]; rcases hk67 with h | h <;> rw [h] <;> rfl)])
            have kb67 : ∃ b6 b7 : Bool, (ps[k].kind == 6) = b6 ∧ (ps[k].kind == 7) = b7 ∧ (b6 = true ∨ (b6 = false ∧ b7 = true)) := ⟨_, _, rfl, rfl, by
              rcases hk67 with h | h
              · exact .inl (by simp [h])
              · exact .inr ⟨by simp [h], by simp [h]⟩⟩
            obtain ⟨b6, b7, kb6, kb7, h67⟩ := kb67
            clear hk9 hk67
            rcases h67 with rfl | ⟨rfl, rfl⟩
            all_goals
              go_wp2_with fail
              refine (OA.out _ HKP.out ((wr.alloc (.cells #[.int .i64 ps[k].kind, .string ps[k].pkg, .string ps[k].name, .slice A3 ps[k].args.length c3, .slice A4 ps[k].res.length c4] 26)).alloc (.cells #[.int .i64 qs[k].kind, .string qs[k].pkg, .string qs[k].name, .slice B3 qs[k].args.length d3, .slice B4 qs[k].res.length d4] 26)).drew qs[k].args m' An A3 B3 cn c3 d3 HS2.out HN.out HZ3.out HY3.out).mono ?_
              rintro e w1 ⟨rfl, hs1, hc1⟩
              have HS5 := Lib.hid hs1; have HC5 := Lib.hid (HC2.out.trans hc1 (fun _ _ e => e))
              have v4 : w1.cell? ⟨wr.heap.size, 4, none⟩ = some (.slice A4 ps[k].res.length c4) := (cell_at (hc1.heap HPB.out (by have := HBL.out; omega)) 4).trans rfl
              have s4 : w1.cell? ⟨wr.heap.size + 1, 4, none⟩ = some (.slice B4 qs[k].res.length d4) := (cell_at (hc1.heap HQB.out (by have := HBL.out; omega)) 4).trans rfl
              clear hs1 hc1
              go_wp2_with fail
              refine (OR.out _ HKP.out w1 qs[k].res _ An A4 B4 cn c4 d4 HS5.out HN.out HZ4.out HY4.out).mono ?_
              rintro e w2 ⟨rfl, hs2, hc2⟩
              have HS6 := Lib.hid hs2; have HC6 := Lib.hid (HC5.out.trans hc2 (fun _ _ e => e))
              clear hs2 hc2
              go_wp2_with fail
              go_roundw
              case rel => exact ⟨k + 1, _, HKK.out.1, by go_num, HS6.out, HC6.out, by rw [← HST.out, HIT.out]⟩
              case measure => simp [intOf]; omega
    case refine_2 =>
      go_wp2_with fail
      refine hK _ _ ((Below.refl wr.heap.size wr).alloc (Nat.le_refl _) _).drew ?_
      clear hK K
      refine wpT_one rfl (fun K hK => ?_)
      go_wp2_with fail
      refine hK _ _ (((Below.refl wr.heap.size wr).alloc (Nat.le_refl _) _).alloc (by simp) _).drew ?_
      clear hK K
      refine wpT_one rfl (fun K hK => ?_)
      go_wp2_with fail
      refine hK _ _ (((Below.refl wr.heap.size wr).alloc (Nat.le_refl _) _).alloc (by simp) _).drew ?_
      clear hK K
      refine wpT_one rfl (fun K hK => ?_)
      go_wp2_with fail
      refine hK _ _ (((Below.refl wr.heap.size wr).alloc (Nat.le_refl _) _).alloc (by simp) _).drew ?_
      clear hK K
      refine wpT_doneN ?_
      have hcw : Chg (fun _ => False) wr ((wr.alloc (.cells #[.int .i64 qs[k].kind, .string qs[k].pkg, .string qs[k].name, .slice B3 qs[k].args.length d3, .slice B4 qs[k].res.length d4] 26)).alloc (.cells #[.int .i64 ps[k].kind, .string ps[k].pkg, .string ps[k].name, .slice A3 ps[k].args.length c3, .slice A4 ps[k].res.length c4] 26)).drew := (((Chg.refl _ _).alloc _).alloc _).drew
      have HS2 := Lib.hid (HS.out.keep hcw); have HC2 := Lib.hid (HC.out.trans hcw (fun _ _ q => q.elim)); clear hcw
      obtain ⟨mv, hm1, hm2⟩ := HS2.out.map
      have HMS := Lib.hid hm1; have HMR := Lib.hid (show RelT W0 m' mv from hm2); clear hm1 hm2
      have HNW := Lib.hid (HN.out.sub (Below.sub HS2.out.below))
      have HPB := Lib.hid (show ((wr.alloc (.cells #[.int .i64 qs[k].kind, .string qs[k].pkg, .string qs[k].name, .slice B3 qs[k].args.length d3, .slice B4 qs[k].res.length d4] 26)).alloc (.cells #[.int .i64 ps[k].kind, .string ps[k].pkg, .string ps[k].name, .slice A3 ps[k].args.length c3, .slice A4 ps[k].res.length c4] 26)).drew.heap[wr.heap.size + 1]? = some (.cells #[.int .i64 ps[k].kind, .string ps[k].pkg, .string ps[k].name, .slice A3 ps[k].args.length c3, .slice A4 ps[k].res.length c4] 26 (0, 0)) from by have := alloc_at (wr.alloc (.cells #[.int .i64 qs[k].kind, .string qs[k].pkg, .string qs[k].name, .slice B3 qs[k].args.length d3, .slice B4 qs[k].res.length d4] 26)) (.cells #[.int .i64 ps[k].kind, .string ps[k].pkg, .string ps[k].name, .slice A3 ps[k].args.length c3, .slice A4 ps[k].res.length c4] 26); rw [World.size_alloc] at this; exact this)
      have HQB := Lib.hid (show ((wr.alloc (.cells #[.int .i64 qs[k].kind, .string qs[k].pkg, .string qs[k].name, .slice B3 qs[k].args.length d3, .slice B4 qs[k].res.length d4] 26)).alloc (.cells #[.int .i64 ps[k].kind, .string ps[k].pkg, .string ps[k].name, .slice A3 ps[k].args.length c3, .slice A4 ps[k].res.length c4] 26)).drew.heap[wr.heap.size]? = some (.cells #[.int .i64 qs[k].kind, .string qs[k].pkg, .string qs[k].name, .slice B3 qs[k].args.length d3, .slice B4 qs[k].res.length d4] 26 (0, 0)) from alloc_old (alloc_at wr _) _)
      have HBL := Lib.hid (show b < wr.heap.size from HS.out.lt)
      by_cases hk9 : ps[k].kind = 9
      case pos =>
        have kb9 : (ps[k].kind == 9) = true := by simp [hk9]
        cases hcn : decide (placeN names ps[k].name < names.length) with
        | true =>
          have HCT := Lib.hid (contains_any _ names An cn HNW.out ps[k].name)
          rw [hcn] at HCT
          rcases HMR.out ps[k].name with ⟨hm0, hv0⟩ | ⟨t, vs, hm0, hv0, hvt⟩
          · have HIT := Lib.hid (show infT names ps[k] qs[k] m' = setT m' ps[k].name qs[k] by rw [infT_eq, if_pos (by rw [decide_eq_true hk9, hcn]; rfl), hm0]; rfl)
            have HMV := Lib.hid hv0
            have hcl : Chg (fun _ => False) ((wr.alloc (.cells #[.int .i64 qs[k].kind, .string qs[k].pkg, .string qs[k].name, .slice B3 qs[k].args.length d3, .slice B4 qs[k].res.length d4] 26)).alloc (.cells #[.int .i64 ps[k].kind, .string ps[k].pkg, .string ps[k].name, .slice A3 ps[k].args.length c3, .slice A4 ps[k].res.length c4] 26)).drew (((wr.alloc (.cells #[.int .i64 qs[k].kind, .string qs[k].pkg, .string qs[k].name, .slice B3 qs[k].args.length d3, .slice B4 qs[k].res.length d4] 26)).alloc (.cells #[.int .i64 ps[k].kind, .string ps[k].pkg, .string ps[k].name, .slice A3 ps[k].args.length c3, .slice A4 ps[k].res.length c4] 26)).alloc (.cells #[.int .i64 0, .string ⟨#[]⟩, .string ⟨#[]⟩, .slice none 0 0, .slice none 0 0] 26)).drew := (Chg.refl _ ((wr.alloc (.cells #[.int .i64 qs[k].kind, .string qs[k].pkg, .string qs[k].name, .slice B3 qs[k].args.length d3, .slice B4 qs[k].res.length d4] 26)).alloc (.cells #[.int .i64 ps[k].kind, .string ps[k].pkg, .string ps[k].name, .slice A3 ps[k].args.length c3, .slice A4 ps[k].res.length c4] 26)).drew).alloc _
            have HML := Lib.hid (HMS.out.keep (hcl.block b HMS.out.lt id))
            have HSL := Lib.hid (HS2.out.keep hcl); have HCL := Lib.hid (HC2.out.trans hcl (fun _ _ q => q.elim))
            clear hcn hk9 hm0 hv0 hcl
            go_wp2_with fail
            refine HCT.out.mono ?_
            rintro e w' ⟨rfl, rfl⟩
            go_wp2_with (first | (at_lookup; refine wpList_lookup_map _ rfl _ _ true rfl (keyStr Try.underlying9) Try.underlying71 (zeroTy _) HMS.out ps[k].name rfl rfl ?_; rw [HMV.out]) | (at_mapUpdate; refine wpList_update_map _ rfl _ _ _ rfl (keyStr Try.underlying9) Try.underlying71 HML.out ps[k].name (.agg #[.int .i64 qs[k].kind, .string qs[k].pkg, .string qs[k].name, .slice B3 qs[k].args.length d3, .slice B4 qs[k].res.length d4]) rfl rfl rfl ?_; intro w3 h3 hc3; have HM3 := Lib.hid h3; have HC3 := Lib.hid hc3; clear h3 hc3))
            have HS4 := Lib.hid (show InfS W0 w3 b (setT m' ps[k].name qs[k]) from ⟨Below.chg HSL.out.below HC3.out HSL.out.below.size (fun i e => e ▸ HS.out.hi), HS.out.hi, MapT.set HMR.out HM3.out HVQ.out⟩)
            have HC4 := Lib.hid (HCL.out.trans HC3.out (fun _ _ e => e))
            go_roundw
            case rel => exact ⟨k + 1, _, HKK.out.1, by go_num, HS4.out, HC4.out, by rw [← HST.out, HIT.out]⟩
            case measure => simp [intOf]; omega
          · have HIT := Lib.hid (show infT names ps[k] qs[k] m' = m' by rw [infT_eq, if_pos (by rw [decide_eq_true hk9, hcn]; rfl), hm0]; rfl)
            obtain ⟨E3, x3, E4, x4, rfl, _⟩ := Ty.opn hvt
            have HMV := Lib.hid (show mv ps[k].name = some (.agg #[.int .i64 t.kind, .string t.pkg, .string t.name, .slice E3 t.args.length x3, .slice E4 t.res.length x4]) from hv0)
            have hcl : Chg (fun _ => False) ((wr.alloc (.cells #[.int .i64 qs[k].kind, .string qs[k].pkg, .string qs[k].name, .slice B3 qs[k].args.length d3, .slice B4 qs[k].res.length d4] 26)).alloc (.cells #[.int .i64 ps[k].kind, .string ps[k].pkg, .string ps[k].name, .slice A3 ps[k].args.length c3, .slice A4 ps[k].res.length c4] 26)).drew (((wr.alloc (.cells #[.int .i64 qs[k].kind, .string qs[k].pkg, .string qs[k].name, .slice B3 qs[k].args.length d3, .slice B4 qs[k].res.length d4] 26)).alloc (.cells #[.int .i64 ps[k].kind, .string ps[k].pkg, .string ps[k].name, .slice A3 ps[k].args.length c3, .slice A4 ps[k].res.length c4] 26)).alloc (.cells #[.int .i64 t.kind, .string t.pkg, .string t.name, .slice E3 t.args.length x3, .slice E4 t.res.length x4] 26)).drew := (Chg.refl _ ((wr.alloc (.cells #[.int .i64 qs[k].kind, .string qs[k].pkg, .string qs[k].name, .slice B3 qs[k].args.length d3, .slice B4 qs[k].res.length d4] 26)).alloc (.cells #[.int .i64 ps[k].kind, .string ps[k].pkg, .string ps[k].name, .slice A3 ps[k].args.length c3, .slice A4 ps[k].res.length c4] 26)).drew).alloc _
            have HSL := Lib.hid (HS2.out.keep hcl); have HCL := Lib.hid (HC2.out.trans hcl (fun _ _ q => q.elim))
            clear hcn hk9 hm0 hv0 hvt hcl
            go_wp2_with fail
            refine HCT.out.mono ?_
            rintro e w' ⟨rfl, rfl⟩
            go_wp2_with (first | (at_lookup; refine wpList_lookup_map _ rfl _ _ true rfl (keyStr Try.underlying9) Try.underlying71 (zeroTy _) HMS.out ps[k].name rfl rfl ?_; rw [HMV.out]))
            go_roundw
            case rel => exact ⟨k + 1, _, HKK.out.1, by go_num, HSL.out, HCL.out, by rw [← HST.out, HIT.out]⟩
            case measure => simp [intOf]; omega
        | false =>
          have HCT := Lib.hid (contains_any _ names An cn HNW.out ps[k].name)
          rw [hcn] at HCT
          have HIT := Lib.hid (show infT names ps[k] qs[k] m' = m' by rw [infT_eq, if_neg (by rw [hcn, Bool.and_false]; simp), if_neg (by rw [hk9]; simp)])
          have kb6 : (ps[k].kind == 6) = false := by simp [hk9]
          have kb7 : (ps[k].kind == 7) = false := by simp [hk9]
          clear hcn hk9
          cases kbq : (ps[k].kind == qs[k].kind)
          all_goals
            go_wp2_with fail
            refine HCT.out.mono ?_
            rintro e w' ⟨rfl, rfl⟩
            go_wp2_with fail
            go_roundw
            case rel => exact ⟨k + 1, _, HKK.out.1, by go_num, HS2.out, HC2.out, by rw [← HST.out, HIT.out]⟩
            case measure => simp [intOf]; omega
      case neg =>
        have kb9 : (ps[k].kind == 9) = false := by simp [hk9]
        cases kbq : (ps[k].kind == qs[k].kind) with
        | false =>
          have HIT := Lib.hid (show infT names ps[k] qs[k] m' = m' by rw [infT_eq, if_neg (by rw [decide_eq_false hk9]; simp), if_neg (by rw [decide_eq_false (by simpa using kbq)]; simp)])
          clear hk9
          go_wp2_with fail
          go_roundw
          case rel => exact ⟨k + 1, _, HKK.out.1, by go_num, HS2.out, HC2.out, by rw [← HST.out, HIT.out]⟩
          case measure => simp [intOf]; omega
        | true =>
          by_cases hk67 : ps[k].kind = 6 ∨ ps[k].kind = 7
          case neg =>
            have kb6 : (ps[k].kind == 6) = false := by simp; omega
            have kb7 : (ps[k].kind == 7) = false := by simp; omega
            have HIT := Lib.hid (show infT names ps[k] qs[k] m' = m' by rw [infT_eq, if_neg (by rw [decide_eq_false hk9]; simp), if_neg (by rw [decide_eq_false (by omega : ¬ ps[k].kind = 6), decide_eq_false (by omega : ¬ ps[k].kind = 7)]; simp)])
            clear hk9 hk67
            go_wp2_with fail
            go_roundw
            case rel => exact ⟨k + 1, _, HKK.out.1, by go_num, HS2.out, HC2.out, by rw [← HST.out, HIT.out]⟩
            case measure => simp [intOf]; omega
          case pos =>
            have HIT := Lib.hid (show infT names ps[k] qs[k] m' = infL names ps[k].res qs[k].res (infL names ps[k].args qs[k].args m') by
              rw [infT_eq, if_neg (by rw [decide_eq_false hk9]; simp), if_pos (by rw [decide_eq_true (by simpa using kbq)]; rcases hk67 with h | h <;> rw [h] <;> rfl)])
            have kb67 : ∃ b6 b7 : Bool, (ps[k].kind == 6) = b6 ∧ (ps[k].kind == 7) = b7 ∧ (b6 = true ∨ (b6 = false ∧ b7 = true)) := ⟨_, _, rfl, rfl, by
              rcases hk67 with h | h
              · exact .inl (by simp [h])
              · exact .inr ⟨by simp [h], by simp [h]⟩⟩
            obtain ⟨b6, b7, kb6, kb7, h67⟩ := kb67
            clear hk9 hk67
            rcases h67 with rfl | ⟨rfl, rfl⟩
            all_goals
              go_wp2_with fail
              refine (OA.out _ HKP.out ((wr.alloc (.cells #[.int .i64 qs[k].kind, .string qs[k].pkg, .string qs[k].name, .slice B3 qs[k].args.length d3, .slice B4 qs[k].res.length d4] 26)).alloc (.cells #[.int .i64 ps[k].kind, .string ps[k].pkg, .string ps[k].name, .slice A3 ps[k].args.length c3, .slice A4 ps[k].res.length c4] 26)).drew qs[k].args m' An A3 B3 cn c3 d3 HS2.out HN.out HZ3.out HY3.out).mono ?_
              rintro e w1 ⟨rfl, hs1, hc1⟩
              have HS5 := Lib.hid hs1; have HC5 := Lib.hid (HC2.out.trans hc1 (fun _ _ e => e))
              have v4 : w1.cell? ⟨wr.heap.size + 1, 4, none⟩ = some (.slice A4 ps[k].res.length c4) := (cell_at (hc1.heap HPB.out (by have := HBL.out; omega)) 4).trans rfl
              have s4 : w1.cell? ⟨wr.heap.size, 4, none⟩ = some (.slice B4 qs[k].res.length d4) := (cell_at (hc1.heap HQB.out (by have := HBL.out; omega)) 4).trans rfl
              clear hs1 hc1
              go_wp2_with fail
              refine (OR.out _ HKP.out w1 qs[k].res _ An A4 B4 cn c4 d4 HS5.out HN.out HZ4.out HY4.out).mono ?_
              rintro e w2 ⟨rfl, hs2, hc2⟩
              have HS6 := Lib.hid hs2; have HC6 := Lib.hid (HC5.out.trans hc2 (fun _ _ e => e))
              clear hs2 hc2
              go_wp2_with fail
              go_roundw
              case rel => exact ⟨k + 1, _, HKK.out.1, by go_num, HS6.out, HC6.out, by rw [← HST.out, HIT.out]⟩
              case measure => simp [intOf]; omega
set_option maxRecDepth 100000 in
set_option maxHeartbeats 6400000 in
theorem infers_ge (W0 : World) (b : Nat) (names : List ByteArray) (ps qs : List Ty) (hmin : ¬ qs.length < ps.length) (o_args : ∀ p ∈ ps, InfOne W0 b names p.args) (o_res : ∀ p ∈ ps, InfOne W0 b names p.res) (w : World) (m : TyM) (An Ap Aa : Option Addr) (cn cp ca : Nat)
    (hw : InfS W0 w b m) (hn : SL W0 1 (strs names) names.length An cn) (hp : SL W0 5 (Ty.ds ps) ps.length Ap cp) (ha : SL W0 5 (Ty.ds qs) qs.length Aa ca) :
    Calls Try.prog 47 #[.map (some b), .slice An names.length cn, .slice Ap ps.length cp, .slice Aa qs.length ca] w (InfP W0 w b (infL names ps qs m)) := by
  have hnr := hn.2.2.1; have hpr := hp.2.2.1; have har := ha.2.2.1
  unfold Reach at hnr hpr har
  have HI := Lib.hid hw; have HN := Lib.hid hn; have HPS := Lib.hid hp; have HAS := Lib.hid ha
  have OA := Lib.hid o_args; have OR := Lib.hid o_res
  clear hw hn hp ha o_args o_res
  go_enter Try.func47, Try.ntmps47
  go_wp2_with fail
  have HM := Lib.hid hmin; clear hmin
  go_loopw [18] (fun i wr => ∃ (k : Nat) (m' : TyM), k ≤ ps.length ∧ i = .int .i64 k ∧ InfS W0 wr b m' ∧ Chg (fun j => j = b) w wr ∧ infL names (ps.drop k) (qs.drop k) m' = infL names ps qs m) (fun i _ => ps.length - (intOf i).toNat)
  case atStart => exact ⟨0, m, Nat.zero_le _, rfl, HI.out, Chg.refl _ _, rfl⟩
  case round =>
    obtain ⟨k, m', hk, rfl, hS, hC, hL⟩ := hrel
    have HS := Lib.hid hS; have HC := Lib.hid hC; have HL := Lib.hid hL
    clear hS hC hL
    by_cases hlt : k < ps.length
    case neg =>
      have hlt' : ¬ (k : Int) < ps.length := by omega
      have HE := Lib.hid (show m' = infL names ps qs m by
        rw [← HL.out]
        exact (infL_end names _ _ _ (by have := HM.out; simp only [List.drop_eq_nil_iff]; omega)).symm)
      go_wp2_with fail
      go_end0
      exact ⟨rfl, by rw [← HE.out]; exact HS.out, HC.out⟩
    have hlt' : (k : Int) < ps.length := by omega
    have hkp : k < ps.length := by have := HM.out; omega
    have hkq : k < qs.length := by have := HM.out; omega
    have hkp' : (k : Int) < ps.length := by omega
    have hkq' : (k : Int) < qs.length := by omega
    obtain ⟨bp, op, hAp, A3, c3, A4, c4, e0, e1, e2, e3, e4, z0, z1, z2, z3, z4⟩ := Ty.at HPS.out.2.2.2 k hkp
    obtain ⟨bq, oq, hAq, B3, d3, B4, d4, g0, g1, g2, g3, g4, y0, y1, y2, y3, y4⟩ := Ty.at HAS.out.2.2.2 k hkq
    subst hAp hAq
    have hsub := Below.sub HS.out.below
    have f0 := hsub _ _ e0; have f1 := hsub _ _ e1; have f2 := hsub _ _ e2; have f3 := hsub _ _ e3; have f4 := hsub _ _ e4
    have h0 := hsub _ _ g0; have h1 := hsub _ _ g1; have h2 := hsub _ _ g2; have h3 := hsub _ _ g3; have h4 := hsub _ _ g4
    have HZ3 := Lib.hid z3; have HZ4 := Lib.hid z4; have HY3 := Lib.hid y3; have HY4 := Lib.hid y4
    have HVQ := Lib.hid (Ty.shut (w := W0) (t := qs[k]) y0 y1 y2 y3 y4)
    have HKP := Lib.hid (List.getElem_mem hkp)
    have HST := Lib.hid (show infL names (ps.drop (k + 1)) (qs.drop (k + 1)) (infT names ps[k] qs[k] m') = infL names ps qs m by
      rw [← HL.out, List.drop_eq_getElem_cons hkp, List.drop_eq_getElem_cons hkq]; simp only [infL])
    have HKK := Lib.hid (And.intro (show k + 1 ≤ ps.length by omega) trivial)
    clear hsub e0 e1 e2 e3 e4 g0 g1 g2 g3 g4 z0 z1 z2 z3 z4 y0 y1 y2 y3 y4
    go_wp2_with fail
    refine wp_region_otN (fun wS => Below wr.heap.size wr wS) (.get 0 (.get 1 (.get 2 (.get 3 (.get 4 (.get 5 (.get 6 (.get 7 (.two 8 (.one 9 (.one 10 (.one 11 .done))) 9 (.one 8 (.one 10 (.one 11 .done)))))))))))) (by kernel_rfl) (by kernel_rfl) (Below.drew (Below.refl _ _)) ?_
    apply wpT_get rfl
    · go_simp
    · intro wS hS
      go_simp
      try rfl
    intro K hK
    go_simp
    refine hK _ ?_
    clear hK K
    apply wpT_get rfl
    · go_simp
    · intro wS hS
      go_simp
      try rfl
    intro K hK
    go_simp
    refine hK _ ?_
    clear hK K
    apply wpT_get rfl
    · go_simp
    · intro wS hS
      go_simp
      try rfl
    intro K hK
    go_simp
    refine hK _ ?_
    clear hK K
    apply wpT_get rfl
    · go_simp
    · intro wS hS
      have x0 := Below.sub hS _ _ f0; have x1 := Below.sub hS _ _ f1; have x2 := Below.sub hS _ _ f2; have x3 := Below.sub hS _ _ f3; have x4 := Below.sub hS _ _ f4
      go_simp
      try rfl
    intro K hK
    go_simp
    refine hK _ ?_
    clear hK K
    apply wpT_get rfl
    · go_simp
    · intro wS hS
      go_simp
      try rfl
    intro K hK
    go_simp
    refine hK _ ?_
    clear hK K
    apply wpT_get rfl
    · go_simp
    · intro wS hS
      go_simp
      try rfl
    intro K hK
    go_simp
    refine hK _ ?_
    clear hK K
    apply wpT_get rfl
    · go_simp
    · intro wS hS
      go_simp
      try rfl
    intro K hK
    go_simp
    refine hK _ ?_
    clear hK K
    apply wpT_get rfl
    · go_simp
    · intro wS hS
      have x0 := Below.sub hS _ _ h0; have x1 := Below.sub hS _ _ h1; have x2 := Below.sub hS _ _ h2; have x3 := Below.sub hS _ _ h3; have x4 := Below.sub hS _ _ h4
      go_simp
      try rfl
    intro K hK
    go_simp
    refine hK _ ?_
    clear hK K
    refine wpT_two rfl rfl (fun K hK => ?_) (fun K hK => ?_)
    case refine_1 =>
      go_wp2_with fail
      refine hK _ _ ((Below.refl wr.heap.size wr).alloc (Nat.le_refl _) _).drew ?_
      clear hK K
      refine wpT_one rfl (fun K hK => ?_)
      go_wp2_with fail
      refine hK _ _ (((Below.refl wr.heap.size wr).alloc (Nat.le_refl _) _).alloc (by simp) _).drew ?_
      clear hK K
      refine wpT_one rfl (fun K hK => ?_)
      go_wp2_with fail
      refine hK _ _ (((Below.refl wr.heap.size wr).alloc (Nat.le_refl _) _).alloc (by simp) _).drew ?_
      clear hK K
      refine wpT_one rfl (fun K hK => ?_)
      go_wp2_with fail
      refine hK _ _ (((Below.refl wr.heap.size wr).alloc (Nat.le_refl _) _).alloc (by simp) _).drew ?_
      clear hK K
      refine wpT_doneN ?_
      have hcw : Chg (fun _ => False) wr ((wr.alloc (.cells #[.int .i64 ps[k].kind, .string ps[k].pkg, .string ps[k].name, .slice A3 ps[k].args.length c3, .slice A4 ps[k].res.length c4] 26)).alloc (.cells #[.int .i64 qs[k].kind, .string qs[k].pkg, .string qs[k].name, .slice B3 qs[k].args.length d3, .slice B4 qs[k].res.length d4] 26)).drew := (((Chg.refl _ _).alloc _).alloc _).drew
      have HS2 := Lib.hid (HS.out.keep hcw); have HC2 := Lib.hid (HC.out.trans hcw (fun _ _ q => q.elim)); clear hcw
      obtain ⟨mv, hm1, hm2⟩ := HS2.out.map
      have HMS := Lib.hid hm1; have HMR := Lib.hid (show RelT W0 m' mv from hm2); clear hm1 hm2
      have HNW := Lib.hid (HN.out.sub (Below.sub HS2.out.below))
      have HPB := Lib.hid (show ((wr.alloc (.cells #[.int .i64 ps[k].kind, .string ps[k].pkg, .string ps[k].name, .slice A3 ps[k].args.length c3, .slice A4 ps[k].res.length c4] 26)).alloc (.cells #[.int .i64 qs[k].kind, .string qs[k].pkg, .string qs[k].name, .slice B3 qs[k].args.length d3, .slice B4 qs[k].res.length d4] 26)).drew.heap[wr.heap.size]? = some (.cells #[.int .i64 ps[k].kind, .string ps[k].pkg, .string ps[k].name, .slice A3 ps[k].args.length c3, .slice A4 ps[k].res.length c4] 26 (0, 0)) from alloc_old (alloc_at wr _) _)
      have HQB := Lib.hid (show ((wr.alloc (.cells #[.int .i64 ps[k].kind, .string ps[k].pkg, .string ps[k].name, .slice A3 ps[k].args.length c3, .slice A4 ps[k].res.length c4] 26)).alloc (.cells #[.int .i64 qs[k].kind, .string qs[k].pkg, .string qs[k].name, .slice B3 qs[k].args.length d3, .slice B4 qs[k].res.length d4] 26)).drew.heap[wr.heap.size + 1]? = some (.cells #[.int .i64 qs[k].kind, .string qs[k].pkg, .string qs[k].name, .slice B3 qs[k].args.length d3, .slice B4 qs[k].res.length d4] 26 (0, 0)) from by have := alloc_at (wr.alloc (.cells #[.int .i64 ps[k].kind, .string ps[k].pkg, .string ps[k].name, .slice A3 ps[k].args.length c3, .slice A4 ps[k].res.length c4] 26)) (.cells #[.int .i64 qs[k].kind, .string qs[k].pkg, .string qs[k].name, .slice B3 qs[k].args.length d3, .slice B4 qs[k].res.length d4] 26); rw [World.size_alloc] at this; exact this)
      have HBL := Lib.hid (show b < wr.heap.size from HS.out.lt)
      by_cases hk9 : ps[k].kind = 9
      case pos =>
        have kb9 : (ps[k].kind == 9) = true := by simp [hk9]
        cases hcn : decide (placeN names ps[k].name < names.length) with
        | true =>
          have HCT := Lib.hid (contains_any _ names An cn HNW.out ps[k].name)
          rw [hcn] at HCT
          rcases HMR.out ps[k].name with ⟨hm0, hv0⟩ | ⟨t, vs, hm0, hv0, hvt⟩
          · have HIT := Lib.hid (show infT names ps[k] qs[k] m' = setT m' ps[k].name qs[k] by rw [infT_eq, if_pos (by rw [decide_eq_true hk9, hcn]; rfl), hm0]; rfl)
            have HMV := Lib.hid hv0
            have hcl : Chg (fun _ => False) ((wr.alloc (.cells #[.int .i64 ps[k].kind, .string ps[k].pkg, .string ps[k].name, .slice A3 ps[k].args.length c3, .slice A4 ps[k].res.length c4] 26)).alloc (.cells #[.int .i64 qs[k].kind, .string qs[k].pkg, .string qs[k].name, .slice B3 qs[k].args.length d3, .slice B4 qs[k].res.length d4] 26)).drew (((wr.alloc (.cells #[.int .i64 ps[k].kind, .string ps[k].pkg, .string ps[k].name, .slice A3 ps[k].args.length c3, .slice A4 ps[k].res.length c4] 26)).alloc (.cells #[.int .i64 qs[k].kind, .string qs[k].pkg, .string qs[k].name, .slice B3 qs[k].args.length d3, .slice B4 qs[k].res.length d4] 26)).alloc (.cells #[.int .i64 0, .string ⟨#[]⟩, .string ⟨#[]⟩, .slice none 0 0, .slice none 0 0] 26)).drew := (Chg.refl _ ((wr.alloc (.cells #[.int .i64 ps[k].kind, .string ps[k].pkg, .string ps[k].name, .slice A3 ps[k].args.length c3, .slice A4 ps[k].res.length c4] 26)).alloc (.cells #[.int .i64 qs[k].kind, .string qs[k].pkg, .string qs[k].name, .slice B3 qs[k].args.length d3, .slice B4 qs[k].res.length d4] 26)).drew).alloc _
            have HML := Lib.hid (HMS.out.keep (hcl.block b HMS.out.lt id))
            have HSL := Lib.hid (HS2.out.keep hcl); have HCL := Lib.hid (HC2.out.trans hcl (fun _ _ q => q.elim))
            clear hcn hk9 hm0 hv0 hcl
            go_wp2_with fail
            refine HCT.out.mono ?_
            rintro e w' ⟨rfl, rfl⟩
            go_wp2_with (first | (at_lookup; refine wpList_lookup_map _ rfl _ _ true rfl (keyStr Try.underlying9) Try.underlying71 (zeroTy _) HMS.out ps[k].name rfl rfl ?_; rw [HMV.out]) | (at_mapUpdate; refine wpList_update_map _ rfl _ _ _ rfl (keyStr Try.underlying9) Try.underlying71 HML.out ps[k].name (.agg #[.int .i64 qs[k].kind, .string qs[k].pkg, .string qs[k].name, .slice B3 qs[k].args.length d3, .slice B4 qs[k].res.length d4]) rfl rfl rfl ?_; intro w3 h3 hc3; have HM3 := Lib.hid h3; have HC3 := Lib.hid hc3; clear h3 hc3))
            have HS4 := Lib.hid (show InfS W0 w3 b (setT m' ps[k].name qs[k]) from ⟨Below.chg HSL.out.below HC3.out HSL.out.below.size (fun i e => e ▸ HS.out.hi), HS.out.hi, MapT.set HMR.out HM3.out HVQ.out⟩)
            have HC4 := Lib.hid (HCL.out.trans HC3.out (fun _ _ e => e))
            go_roundw
            case rel => exact ⟨k + 1, _, HKK.out.1, by go_num, HS4.out, HC4.out, by rw [← HST.out, HIT.out]⟩
            case measure => simp [intOf]; omega
          · have HIT := Lib.hid (show infT names ps[k] qs[k] m' = m' by rw [infT_eq, if_pos (by rw [decide_eq_true hk9, hcn]; rfl), hm0]; rfl)
            obtain ⟨E3, x3, E4, x4, rfl, _⟩ := Ty.opn hvt
            have HMV := Lib.hid (show mv ps[k].name = some (.agg #[.int .i64 t.kind, .string t.pkg, .string t.name, .slice E3 t.args.length x3, .slice E4 t.res.length x4]) from hv0)
            have hcl : Chg (fun _ => False) ((wr.alloc (.cells #[.int .i64 ps[k].kind, .string ps[k].pkg, .string ps[k].name, .slice A3 ps[k].args.length c3, .slice A4 ps[k].res.length c4] 26)).alloc (.cells #[.int .i64 qs[k].kind, .string qs[k].pkg, .string qs[k].name, .slice B3 qs[k].args.length d3, .slice B4 qs[k].res.length d4] 26)).drew (((wr.alloc (.cells #[.int .i64 ps[k].kind, .string ps[k].pkg, .string ps[k].name, .slice A3 ps[k].args.length c3, .slice A4 ps[k].res.length c4] 26)).alloc (.cells #[.int .i64 qs[k].kind, .string qs[k].pkg, .string qs[k].name, .slice B3 qs[k].args.length d3, .slice B4 qs[k].res.length d4] 26)).alloc (.cells #[.int .i64 t.kind, .string t.pkg, .string t.name, .slice E3 t.args.length x3, .slice E4 t.res.length x4] 26)).drew := (Chg.refl _ ((wr.alloc (.cells #[.int .i64 ps[k].kind, .string ps[k].pkg, .string ps[k].name, .slice A3 ps[k].args.length c3, .slice A4 ps[k].res.length c4] 26)).alloc (.cells #[.int .i64 qs[k].kind, .string qs[k].pkg, .string qs[k].name, .slice B3 qs[k].args.length d3, .slice B4 qs[k].res.length d4] 26)).drew).alloc _
            have HSL := Lib.hid (HS2.out.keep hcl); have HCL := Lib.hid (HC2.out.trans hcl (fun _ _ q => q.elim))
            clear hcn hk9 hm0 hv0 hvt hcl
            go_wp2_with fail
            refine HCT.out.mono ?_
            rintro e w' ⟨rfl, rfl⟩
            go_wp2_with (first | (at_lookup; refine wpList_lookup_map _ rfl _ _ true rfl (keyStr Try.underlying9) Try.underlying71 (zeroTy _) HMS.out ps[k].name rfl rfl ?_; rw [HMV.out]))
            go_roundw
            case rel => exact ⟨k + 1, _, HKK.out.1, by go_num, HSL.out, HCL.out, by rw [← HST.out, HIT.out]⟩
            case measure => simp [intOf]; omega
        | false =>
          have HCT := Lib.hid (contains_any _ names An cn HNW.out ps[k].name)
          rw [hcn] at HCT
          have HIT := Lib.hid (show infT names ps[k] qs[k] m' = m' by rw [infT_eq, if_neg (by rw [hcn, Bool.and_false]; simp), if_neg (by rw [hk9]; simp)])
          have kb6 : (ps[k].kind == 6) = false := by simp [hk9]
          have kb7 : (ps[k].kind == 7) = false := by simp [hk9]
          clear hcn hk9
          cases kbq : (ps[k].kind == qs[k].kind)
          all_goals
            go_wp2_with fail
            refine HCT.out.mono ?_
            rintro e w' ⟨rfl, rfl⟩
            go_wp2_with fail
            go_roundw
            case rel => exact ⟨k + 1, _, HKK.out.1, by go_num, HS2.out, HC2.out, by rw [← HST.out, HIT.out]⟩
            case measure => simp [intOf]; omega
      case neg =>
        have kb9 : (ps[k].kind == 9) = false := by simp [hk9]
        cases kbq : (ps[k].kind == qs[k].kind) with
        | false =>
          have HIT := Lib.hid (show infT names ps[k] qs[k] m' = m' by rw [infT_eq, if_neg (by rw [decide_eq_false hk9]; simp), if_neg (by rw [decide_eq_false (by simpa using kbq)]; simp)])
          clear hk9
          go_wp2_with fail
          go_roundw
          case rel => exact ⟨k + 1, _, HKK.out.1, by go_num, HS2.out, HC2.out, by rw [← HST.out, HIT.out]⟩
          case measure => simp [intOf]; omega
        | true =>
          by_cases hk67 : ps[k].kind = 6 ∨ ps[k].kind = 7
          case neg =>
            have kb6 : (ps[k].kind == 6) = false := by simp; omega
            have kb7 : (ps[k].kind == 7) = false := by simp; omega
            have HIT := Lib.hid (show infT names ps[k] qs[k] m' = m' by rw [infT_eq, if_neg (by rw [decide_eq_false hk9]; simp), if_neg (by rw [decide_eq_false (by omega : ¬ ps[k].kind = 6), decide_eq_false (by omega : ¬ ps[k].kind = 7)]; simp)])
            clear hk9 hk67
            go_wp2_with fail
            go_roundw
            case rel => exact ⟨k + 1, _, HKK.out.1, by go_num, HS2.out, HC2.out, by rw [← HST.out, HIT.out]⟩
            case measure => simp [intOf]; omega
          case pos =>
            have HIT := Lib.hid (show infT names ps[k] qs[k] m' = infL names ps[k].res qs[k].res (infL names ps[k].args qs[k].args m') by
              rw [infT_eq, if_neg (by rw [decide_eq_false hk9]; simp), if_pos (by rw [decide_eq_true (by simpa using kbq)]; rcases hk67 with h | h <;> rw [h] <;> rfl)])
            have kb67 : ∃ b6 b7 : Bool, (ps[k].kind == 6) = b6 ∧ (ps[k].kind == 7) = b7 ∧ (b6 = true ∨ (b6 = false ∧ b7 = true)) := ⟨_, _, rfl, rfl, by
              rcases hk67 with h | h
              · exact .inl (by simp [h])
              · exact .inr ⟨by simp [h], by simp [h]⟩⟩
            obtain ⟨b6, b7, kb6, kb7, h67⟩ := kb67
            clear hk9 hk67
            rcases h67 with rfl | ⟨rfl, rfl⟩
            all_goals
              go_wp2_with fail
              refine (OA.out _ HKP.out ((wr.alloc (.cells #[.int .i64 ps[k].kind, .string ps[k].pkg, .string ps[k].name, .slice A3 ps[k].args.length c3, .slice A4 ps[k].res.length c4] 26)).alloc (.cells #[.int .i64 qs[k].kind, .string qs[k].pkg, .string qs[k].name, .slice B3 qs[k].args.length d3, .slice B4 qs[k].res.length d4] 26)).drew qs[k].args m' An A3 B3 cn c3 d3 HS2.out HN.out HZ3.out HY3.out).mono ?_
              rintro e w1 ⟨rfl, hs1, hc1⟩
              have HS5 := Lib.hid hs1; have HC5 := Lib.hid (HC2.out.trans hc1 (fun _ _ e => e))
              have v4 : w1.cell? ⟨wr.heap.size, 4, none⟩ = some (.slice A4 ps[k].res.length c4) := (cell_at (hc1.heap HPB.out (by have := HBL.out; omega)) 4).trans rfl
              have s4 : w1.cell? ⟨wr.heap.size + 1, 4, none⟩ = some (.slice B4 qs[k].res.length d4) := (cell_at (hc1.heap HQB.out (by have := HBL.out; omega)) 4).trans rfl
              clear hs1 hc1
              go_wp2_with fail
              refine (OR.out _ HKP.out w1 qs[k].res _ An A4 B4 cn c4 d4 HS5.out HN.out HZ4.out HY4.out).mono ?_
              rintro e w2 ⟨rfl, hs2, hc2⟩
              have HS6 := Lib.hid hs2; have HC6 := Lib.hid (HC5.out.trans hc2 (fun _ _ e => e))
              clear hs2 hc2
              go_wp2_with fail
              go_roundw
              case rel => exact ⟨k + 1, _, HKK.out.1, by go_num, HS6.out, HC6.out, by rw [← HST.out, HIT.out]⟩
              case measure => simp [intOf]; omega
    case refine_2 =>
      go_wp2_with fail
      refine hK _ _ ((Below.refl wr.heap.size wr).alloc (Nat.le_refl _) _).drew ?_
      clear hK K
      refine wpT_one rfl (fun K hK => ?_)
      go_wp2_with fail
      refine hK _ _ (((Below.refl wr.heap.size wr).alloc (Nat.le_refl _) _).alloc (by simp) _).drew ?_
      clear hK K
      refine wpT_one rfl (fun K hK => ?_)
      go_wp2_with fail
      refine hK _ _ (((Below.refl wr.heap.size wr).alloc (Nat.le_refl _) _).alloc (by simp) _).drew ?_
      clear hK K
      refine wpT_one rfl (fun K hK => ?_)
      go_wp2_with fail
      refine hK _ _ (((Below.refl wr.heap.size wr).alloc (Nat.le_refl _) _).alloc (by simp) _).drew ?_
      clear hK K
      refine wpT_doneN ?_
      have hcw : Chg (fun _ => False) wr ((wr.alloc (.cells #[.int .i64 qs[k].kind, .string qs[k].pkg, .string qs[k].name, .slice B3 qs[k].args.length d3, .slice B4 qs[k].res.length d4] 26)).alloc (.cells #[.int .i64 ps[k].kind, .string ps[k].pkg, .string ps[k].name, .slice A3 ps[k].args.length c3, .slice A4 ps[k].res.length c4] 26)).drew := (((Chg.refl _ _).alloc _).alloc _).drew
      have HS2 := Lib.hid (HS.out.keep hcw); have HC2 := Lib.hid (HC.out.trans hcw (fun _ _ q => q.elim)); clear hcw
      obtain ⟨mv, hm1, hm2⟩ := HS2.out.map
      have HMS := Lib.hid hm1; have HMR := Lib.hid (show RelT W0 m' mv from hm2); clear hm1 hm2
      have HNW := Lib.hid (HN.out.sub (Below.sub HS2.out.below))
      have HPB := Lib.hid (show ((wr.alloc (.cells #[.int .i64 qs[k].kind, .string qs[k].pkg, .string qs[k].name, .slice B3 qs[k].args.length d3, .slice B4 qs[k].res.length d4] 26)).alloc (.cells #[.int .i64 ps[k].kind, .string ps[k].pkg, .string ps[k].name, .slice A3 ps[k].args.length c3, .slice A4 ps[k].res.length c4] 26)).drew.heap[wr.heap.size + 1]? = some (.cells #[.int .i64 ps[k].kind, .string ps[k].pkg, .string ps[k].name, .slice A3 ps[k].args.length c3, .slice A4 ps[k].res.length c4] 26 (0, 0)) from by have := alloc_at (wr.alloc (.cells #[.int .i64 qs[k].kind, .string qs[k].pkg, .string qs[k].name, .slice B3 qs[k].args.length d3, .slice B4 qs[k].res.length d4] 26)) (.cells #[.int .i64 ps[k].kind, .string ps[k].pkg, .string ps[k].name, .slice A3 ps[k].args.length c3, .slice A4 ps[k].res.length c4] 26); rw [World.size_alloc] at this; exact this)
      have HQB := Lib.hid (show ((wr.alloc (.cells #[.int .i64 qs[k].kind, .string qs[k].pkg, .string qs[k].name, .slice B3 qs[k].args.length d3, .slice B4 qs[k].res.length d4] 26)).alloc (.cells #[.int .i64 ps[k].kind, .string ps[k].pkg, .string ps[k].name, .slice A3 ps[k].args.length c3, .slice A4 ps[k].res.length c4] 26)).drew.heap[wr.heap.size]? = some (.cells #[.int .i64 qs[k].kind, .string qs[k].pkg, .string qs[k].name, .slice B3 qs[k].args.length d3, .slice B4 qs[k].res.length d4] 26 (0, 0)) from alloc_old (alloc_at wr _) _)
      have HBL := Lib.hid (show b < wr.heap.size from HS.out.lt)
      by_cases hk9 : ps[k].kind = 9
      case pos =>
        have kb9 : (ps[k].kind == 9) = true := by simp [hk9]
        cases hcn : decide (placeN names ps[k].name < names.length) with
        | true =>
          have HCT := Lib.hid (contains_any _ names An cn HNW.out ps[k].name)
          rw [hcn] at HCT
          rcases HMR.out ps[k].name with ⟨hm0, hv0⟩ | ⟨t, vs, hm0, hv0, hvt⟩
          · have HIT := Lib.hid (show infT names ps[k] qs[k] m' = setT m' ps[k].name qs[k] by rw [infT_eq, if_pos (by rw [decide_eq_true hk9, hcn]; rfl), hm0]; rfl)
            have HMV := Lib.hid hv0
            have hcl : Chg (fun _ => False) ((wr.alloc (.cells #[.int .i64 qs[k].kind, .string qs[k].pkg, .string qs[k].name, .slice B3 qs[k].args.length d3, .slice B4 qs[k].res.length d4] 26)).alloc (.cells #[.int .i64 ps[k].kind, .string ps[k].pkg, .string ps[k].name, .slice A3 ps[k].args.length c3, .slice A4 ps[k].res.length c4] 26)).drew (((wr.alloc (.cells #[.int .i64 qs[k].kind, .string qs[k].pkg, .string qs[k].name, .slice B3 qs[k].args.length d3, .slice B4 qs[k].res.length d4] 26)).alloc (.cells #[.int .i64 ps[k].kind, .string ps[k].pkg, .string ps[k].name, .slice A3 ps[k].args.length c3, .slice A4 ps[k].res.length c4] 26)).alloc (.cells #[.int .i64 0, .string ⟨#[]⟩, .string ⟨#[]⟩, .slice none 0 0, .slice none 0 0] 26)).drew := (Chg.refl _ ((wr.alloc (.cells #[.int .i64 qs[k].kind, .string qs[k].pkg, .string qs[k].name, .slice B3 qs[k].args.length d3, .slice B4 qs[k].res.length d4] 26)).alloc (.cells #[.int .i64 ps[k].kind, .string ps[k].pkg, .string ps[k].name, .slice A3 ps[k].args.length c3, .slice A4 ps[k].res.length c4] 26)).drew).alloc _
            have HML := Lib.hid (HMS.out.keep (hcl.block b HMS.out.lt id))
            have HSL := Lib.hid (HS2.out.keep hcl); have HCL := Lib.hid (HC2.out.trans hcl (fun _ _ q => q.elim))
            clear hcn hk9 hm0 hv0 hcl
            go_wp2_with fail
            refine HCT.out.mono ?_
            rintro e w' ⟨rfl, rfl⟩
            go_wp2_with (first | (at_lookup; refine wpList_lookup_map _ rfl _ _ true rfl (keyStr Try.underlying9) Try.underlying71 (zeroTy _) HMS.out ps[k].name rfl rfl ?_; rw [HMV.out]) | (at_mapUpdate; refine wpList_update_map _ rfl _ _ _ rfl (keyStr Try.underlying9) Try.underlying71 HML.out ps[k].name (.agg #[.int .i64 qs[k].kind, .string qs[k].pkg, .string qs[k].name, .slice B3 qs[k].args.length d3, .slice B4 qs[k].res.length d4]) rfl rfl rfl ?_; intro w3 h3 hc3; have HM3 := Lib.hid h3; have HC3 := Lib.hid hc3; clear h3 hc3))
            have HS4 := Lib.hid (show InfS W0 w3 b (setT m' ps[k].name qs[k]) from ⟨Below.chg HSL.out.below HC3.out HSL.out.below.size (fun i e => e ▸ HS.out.hi), HS.out.hi, MapT.set HMR.out HM3.out HVQ.out⟩)
            have HC4 := Lib.hid (HCL.out.trans HC3.out (fun _ _ e => e))
            go_roundw
            case rel => exact ⟨k + 1, _, HKK.out.1, by go_num, HS4.out, HC4.out, by rw [← HST.out, HIT.out]⟩
            case measure => simp [intOf]; omega
          · have HIT := Lib.hid (show infT names ps[k] qs[k] m' = m' by rw [infT_eq, if_pos (by rw [decide_eq_true hk9, hcn]; rfl), hm0]; rfl)
            obtain ⟨E3, x3, E4, x4, rfl, _⟩ := Ty.opn hvt
            have HMV := Lib.hid (show mv ps[k].name = some (.agg #[.int .i64 t.kind, .string t.pkg, .string t.name, .slice E3 t.args.length x3, .slice E4 t.res.length x4]) from hv0)
            have hcl : Chg (fun _ => False) ((wr.alloc (.cells #[.int .i64 qs[k].kind, .string qs[k].pkg, .string qs[k].name, .slice B3 qs[k].args.length d3, .slice B4 qs[k].res.length d4] 26)).alloc (.cells #[.int .i64 ps[k].kind, .string ps[k].pkg, .string ps[k].name, .slice A3 ps[k].args.length c3, .slice A4 ps[k].res.length c4] 26)).drew (((wr.alloc (.cells #[.int .i64 qs[k].kind, .string qs[k].pkg, .string qs[k].name, .slice B3 qs[k].args.length d3, .slice B4 qs[k].res.length d4] 26)).alloc (.cells #[.int .i64 ps[k].kind, .string ps[k].pkg, .string ps[k].name, .slice A3 ps[k].args.length c3, .slice A4 ps[k].res.length c4] 26)).alloc (.cells #[.int .i64 t.kind, .string t.pkg, .string t.name, .slice E3 t.args.length x3, .slice E4 t.res.length x4] 26)).drew := (Chg.refl _ ((wr.alloc (.cells #[.int .i64 qs[k].kind, .string qs[k].pkg, .string qs[k].name, .slice B3 qs[k].args.length d3, .slice B4 qs[k].res.length d4] 26)).alloc (.cells #[.int .i64 ps[k].kind, .string ps[k].pkg, .string ps[k].name, .slice A3 ps[k].args.length c3, .slice A4 ps[k].res.length c4] 26)).drew).alloc _
            have HSL := Lib.hid (HS2.out.keep hcl); have HCL := Lib.hid (HC2.out.trans hcl (fun _ _ q => q.elim))
            clear hcn hk9 hm0 hv0 hvt hcl
            go_wp2_with fail
            refine HCT.out.mono ?_
            rintro e w' ⟨rfl, rfl⟩
            go_wp2_with (first | (at_lookup; refine wpList_lookup_map _ rfl _ _ true rfl (keyStr Try.underlying9) Try.underlying71 (zeroTy _) HMS.out ps[k].name rfl rfl ?_; rw [HMV.out]))
            go_roundw
            case rel => exact ⟨k + 1, _, HKK.out.1, by go_num, HSL.out, HCL.out, by rw [← HST.out, HIT.out]⟩
            case measure => simp [intOf]; omega
        | false =>
          have HCT := Lib.hid (contains_any _ names An cn HNW.out ps[k].name)
          rw [hcn] at HCT
          have HIT := Lib.hid (show infT names ps[k] qs[k] m' = m' by rw [infT_eq, if_neg (by rw [hcn, Bool.and_false]; simp), if_neg (by rw [hk9]; simp)])
          have kb6 : (ps[k].kind == 6) = false := by simp [hk9]
          have kb7 : (ps[k].kind == 7) = false := by simp [hk9]
          clear hcn hk9
          cases kbq : (ps[k].kind == qs[k].kind)
          all_goals
            go_wp2_with fail
            refine HCT.out.mono ?_
            rintro e w' ⟨rfl, rfl⟩
            go_wp2_with fail
            go_roundw
            case rel => exact ⟨k + 1, _, HKK.out.1, by go_num, HS2.out, HC2.out, by rw [← HST.out, HIT.out]⟩
            case measure => simp [intOf]; omega
      case neg =>
        have kb9 : (ps[k].kind == 9) = false := by simp [hk9]
        cases kbq : (ps[k].kind == qs[k].kind) with
        | false =>
          have HIT := Lib.hid (show infT names ps[k] qs[k] m' = m' by rw [infT_eq, if_neg (by rw [decide_eq_false hk9]; simp), if_neg (by rw [decide_eq_false (by simpa using kbq)]; simp)])
          clear hk9
          go_wp2_with fail
          go_roundw
          case rel => exact ⟨k + 1, _, HKK.out.1, by go_num, HS2.out, HC2.out, by rw [← HST.out, HIT.out]⟩
          case measure => simp [intOf]; omega
        | true =>
          by_cases hk67 : ps[k].kind = 6 ∨ ps[k].kind = 7
          case neg =>
            have kb6 : (ps[k].kind == 6) = false := by simp; omega
            have kb7 : (ps[k].kind == 7) = false := by simp; omega
            have HIT := Lib.hid (show infT names ps[k] qs[k] m' = m' by rw [infT_eq, if_neg (by rw [decide_eq_false hk9]; simp), if_neg (by rw [decide_eq_false (by omega : ¬ ps[k].kind = 6), decide_eq_false (by omega : ¬ ps[k].kind = 7)]; simp)])
            clear hk9 hk67
            go_wp2_with fail
            go_roundw
            case rel => exact ⟨k + 1, _, HKK.out.1, by go_num, HS2.out, HC2.out, by rw [← HST.out, HIT.out]⟩
            case measure => simp [intOf]; omega
          case pos =>
            have HIT := Lib.hid (show infT names ps[k] qs[k] m' = infL names ps[k].res qs[k].res (infL names ps[k].args qs[k].args m') by
              rw [infT_eq, if_neg (by rw [decide_eq_false hk9]; simp), if_pos (by rw [decide_eq_true (by simpa using kbq)]; rcases hk67 with h | h <;> rw [h] <;> rfl)])
            have kb67 : ∃ b6 b7 : Bool, (ps[k].kind == 6) = b6 ∧ (ps[k].kind == 7) = b7 ∧ (b6 = true ∨ (b6 = false ∧ b7 = true)) := ⟨_, _, rfl, rfl, by
              rcases hk67 with h | h
              · exact .inl (by simp [h])
              · exact .inr ⟨by simp [h], by simp [h]⟩⟩
            obtain ⟨b6, b7, kb6, kb7, h67⟩ := kb67
            clear hk9 hk67
            rcases h67 with rfl | ⟨rfl, rfl⟩
            all_goals
              go_wp2_with fail
              refine (OA.out _ HKP.out ((wr.alloc (.cells #[.int .i64 qs[k].kind, .string qs[k].pkg, .string qs[k].name, .slice B3 qs[k].args.length d3, .slice B4 qs[k].res.length d4] 26)).alloc (.cells #[.int .i64 ps[k].kind, .string ps[k].pkg, .string ps[k].name, .slice A3 ps[k].args.length c3, .slice A4 ps[k].res.length c4] 26)).drew qs[k].args m' An A3 B3 cn c3 d3 HS2.out HN.out HZ3.out HY3.out).mono ?_
              rintro e w1 ⟨rfl, hs1, hc1⟩
              have HS5 := Lib.hid hs1; have HC5 := Lib.hid (HC2.out.trans hc1 (fun _ _ e => e))
              have v4 : w1.cell? ⟨wr.heap.size + 1, 4, none⟩ = some (.slice A4 ps[k].res.length c4) := (cell_at (hc1.heap HPB.out (by have := HBL.out; omega)) 4).trans rfl
              have s4 : w1.cell? ⟨wr.heap.size, 4, none⟩ = some (.slice B4 qs[k].res.length d4) := (cell_at (hc1.heap HQB.out (by have := HBL.out; omega)) 4).trans rfl
              clear hs1 hc1
              go_wp2_with fail
              refine (OR.out _ HKP.out w1 qs[k].res _ An A4 B4 cn c4 d4 HS5.out HN.out HZ4.out HY4.out).mono ?_
              rintro e w2 ⟨rfl, hs2, hc2⟩
              have HS6 := Lib.hid hs2; have HC6 := Lib.hid (HC5.out.trans hc2 (fun _ _ e => e))
              clear hs2 hc2
              go_wp2_with fail
              go_roundw
              case rel => exact ⟨k + 1, _, HKK.out.1, by go_num, HS6.out, HC6.out, by rw [← HST.out, HIT.out]⟩
              case measure => simp [intOf]; omega
theorem infers_size (W0 : World) (b : Nat) (names : List ByteArray) : ∀ (n : Nat) (ps : List Ty), SizeOf.sizeOf ps < n → InfOne W0 b names ps
  | 0, _, h => absurd h (Nat.not_lt_zero _)
  | n + 1, ps, h => by
    have o1 : ∀ p ∈ ps, InfOne W0 b names p.args := fun p hp => infers_size W0 b names n p.args (by
      have := List.sizeOf_lt_of_mem hp
      cases p
      simp only [Ty.mk.sizeOf_spec, Ty.args] at *
      omega)
    have o2 : ∀ p ∈ ps, InfOne W0 b names p.res := fun p hp => infers_size W0 b names n p.res (by
      have := List.sizeOf_lt_of_mem hp
      cases p
      simp only [Ty.mk.sizeOf_spec, Ty.res] at *
      omega)
    intro w qs m An Ap Aa cn cp ca hw hn hp ha
    by_cases hm : qs.length < ps.length
    · exact infers_lt W0 b names ps qs hm o1 o2 w m An Ap Aa cn cp ca hw hn hp ha
    · exact infers_ge W0 b names ps qs hm o1 o2 w m An Ap Aa cn cp ca hw hn hp ha
theorem infOne (W0 : World) (b : Nat) (names : List ByteArray) (ps : List Ty) : InfOne W0 b names ps := infers_size W0 b names _ ps (Nat.lt_succ_self _)

end Go.Proofs.Ytiecbgclkdlpkaa
