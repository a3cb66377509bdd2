/-
  The walks of kinds.unit and mortiseref7.unit: the first unit of a package. The condition: what is handed in reads.
-/
import Derived.Test.YtiecbgclkdlpkaaEqs
import Derived.Test.YtiecbgclkdlpkaaAns
import Derived.Test.YtiecbgclkdlpkaaKIdx
namespace Go.Proofs.Ytiecbgclkdlpkaa
open Go.RowKit
set_option linter.unusedVariables false
set_option linter.unusedSimpArgs false

theorem find_hit {α : Type} {p : α → Bool} {l : List α} {k : Nat} (hk : k < l.length) (h : ∀ j (hj : j < l.length), j < k → p l[j] = false) (he : p l[k] = true) : l.find? p = some l[k] :=
  List.find?_eq_some_iff_getElem.2 ⟨he, k, hk, rfl, fun j hj => by rw [h j (by omega) hj]; rfl⟩
theorem find_miss {α : Type} {p : α → Bool} {l : List α} (h : ∀ j (hj : j < l.length), p l[j] = false) : l.find? p = none := by
  refine List.find?_eq_none.2 fun x hx => ?_
  obtain ⟨j, hj, rfl⟩ := List.getElem_of_mem hx
  rw [h j hj]; simp
theorem idx_hit {α : Type} {p : α → Bool} {l : List α} {k : Nat} (hk : k < l.length) (h : ∀ j (hj : j < l.length), j < k → p l[j] = false) (he : p l[k] = true) : l.findIdx? p = some k :=
  List.findIdx?_eq_some_iff_getElem.2 ⟨hk, he, fun j hj => by rw [h j (by omega) hj]; simp⟩
theorem idx_miss {α : Type} {p : α → Bool} {l : List α} (h : ∀ j (hj : j < l.length), p l[j] = false) : l.findIdx? p = none := by
  refine List.findIdx?_eq_none_iff.2 fun x hx => ?_
  obtain ⟨j, hj, rfl⟩ := List.getElem_of_mem hx
  exact h j hj
theorem nil_sl (w : World) (sz : Nat) : SL w sz [] 0 none 0 := ⟨rfl, Nat.le_refl _, Nat.zero_le _, by simp only [Elems]⟩
def isU (s : ByteArray) (u : Un) : Bool := u.pkg.toList == s.toList
def un0 : Un := ⟨⟨#[]⟩, [], [], []⟩
def unitP (us : List Un) (s : ByteArray) : Un := (us.find? (isU s)).getD un0
/-- A struct by value that reads. -/
def GetV (v w : World) (ds : List D) (e : Ending) (w' : World) : Prop := ∃ vs, e = .returned (.agg vs.toArray) ∧ Vals v ds vs ∧ Below w.heap.size w w'

set_option maxRecDepth 100000 in
set_option maxHeartbeats 1600000 in
theorem unit_any (v w : World) (hvw : Below v.heap.size v w) (us : List Un) (s : ByteArray) (A : Option Addr) (c : Nat) (hl : SL v 4 (Un.ds us) us.length A c) : Calls Try.prog 56 #[.slice A us.length c, .string s] w (GetV v w (unitP us s).d) := by
  have hr := hl.2.2.1
  unfold Reach at hr
  have HL := Lib.hid hl; have HVW := Lib.hid hvw; clear hl hvw
  go_enter Try.func56, Try.ntmps56
  go_wp2_with fail
  go_loopw [9] (fun i wr => ∃ k : Nat, k ≤ us.length ∧ i = .int .i64 k ∧ (∀ j (hj : j < us.length), j < k → isU s us[j] = false) ∧ Below (w.heap.size + 1) (w.alloc (.cells #[.string ⟨#[]⟩, .slice none 0 0, .slice none 0 0, .slice none 0 0] 63)) wr) (fun i _ => us.length - (intOf i).toNat)
  case atStart => exact ⟨0, Nat.zero_le _, rfl, fun j _ h => absurd h (Nat.not_lt_zero _), Below.refl _ _⟩
  case round =>
    obtain ⟨k, hk, rfl, hno, hb⟩ := hrel
    have HNO := Lib.hid hno; have HB := Lib.hid hb; clear hno hb
    have HBZ := Lib.hid ((HB.out.block _ (Nat.lt_succ_self _)).trans (alloc_at w (.cells #[.string ⟨#[]⟩, .slice none 0 0, .slice none 0 0, .slice none 0 0] 63)))
    have HBW := Lib.hid (show Below w.heap.size w wr from ((Below.refl w.heap.size w).alloc (Nat.le_refl _) (.cells #[.string ⟨#[]⟩, .slice none 0 0, .slice none 0 0, .slice none 0 0] 63)).trans (HB.out.mono (Nat.le_succ _)))
    have hn : w.heap.size < wr.heap.size := lt_of_block HBZ.out
    by_cases hlt : k < us.length
    · have hlt' : (k : Int) < us.length := by omega
      obtain ⟨bb, o, hA, A1, c1, A2, c2, A3, c3, e0, e1, e2, e3, q0, q1, q2, q3⟩ := Un.at HL.out.2.2.2 k hlt
      subst hA
      have hsub := Below.sub (HVW.out.trans (HBW.out.mono HVW.out.size))
      have f0 := hsub _ _ e0; have f1 := hsub _ _ e1; have f2 := hsub _ _ e2; have f3 := hsub _ _ e3
      have HV := Lib.hid (Un.shut (w := v) (t := us[k]) q0 q1 q2 q3)
      clear hsub e0 e1 e2 e3 q0 q1 q2 q3
      cases z : isU s us[k] with
      | true =>
        have z' : (us[k].pkg.toList == s.toList) = true := z
        have HF := Lib.hid (show unitP us s = us[k] by unfold unitP; rw [find_hit hlt HNO.out z]; rfl)
        clear z
        have r0 : wr.cell? ⟨w.heap.size, 0, none⟩ = some (.string ⟨#[]⟩) := (cell_at HBZ.out 0).trans rfl
        have s0 : wr.frozen? ⟨w.heap.size, 0, none⟩ = false := free_at HBZ.out 0
        have r1 : wr.cell? ⟨w.heap.size, 1, none⟩ = some (.slice none 0 0) := (cell_at HBZ.out 1).trans rfl
        have s1 : wr.frozen? ⟨w.heap.size, 1, none⟩ = false := free_at HBZ.out 1
        have r2 : wr.cell? ⟨w.heap.size, 2, none⟩ = some (.slice none 0 0) := (cell_at HBZ.out 2).trans rfl
        have s2 : wr.frozen? ⟨w.heap.size, 2, none⟩ = false := free_at HBZ.out 2
        have r3 : wr.cell? ⟨w.heap.size, 3, none⟩ = some (.slice none 0 0) := (cell_at HBZ.out 3).trans rfl
        have s3 : wr.frozen? ⟨w.heap.size, 3, none⟩ = false := free_at HBZ.out 3
        have h0 := HBZ.out
        have h1 : (wr.setCell ⟨w.heap.size, 0, none⟩ (.string us[k].pkg)).heap[w.heap.size]? = some (.cells #[.string us[k].pkg, .slice none 0 0, .slice none 0 0, .slice none 0 0] 63 (0, 0)) := set_at h0 0 (.string us[k].pkg)
        have h2 : ((wr.setCell ⟨w.heap.size, 0, none⟩ (.string us[k].pkg)).setCell ⟨w.heap.size, 1, none⟩ (.slice A1 us[k].imports.length c1)).heap[w.heap.size]? = some (.cells #[.string us[k].pkg, .slice A1 us[k].imports.length c1, .slice none 0 0, .slice none 0 0] 63 (0, 0)) := set_at h1 1 (.slice A1 us[k].imports.length c1)
        have h3 : (((wr.setCell ⟨w.heap.size, 0, none⟩ (.string us[k].pkg)).setCell ⟨w.heap.size, 1, none⟩ (.slice A1 us[k].imports.length c1)).setCell ⟨w.heap.size, 2, none⟩ (.slice A2 us[k].decls.length c2)).heap[w.heap.size]? = some (.cells #[.string us[k].pkg, .slice A1 us[k].imports.length c1, .slice A2 us[k].decls.length c2, .slice none 0 0] 63 (0, 0)) := set_at h2 2 (.slice A2 us[k].decls.length c2)
        have h4 : ((((wr.setCell ⟨w.heap.size, 0, none⟩ (.string us[k].pkg)).setCell ⟨w.heap.size, 1, none⟩ (.slice A1 us[k].imports.length c1)).setCell ⟨w.heap.size, 2, none⟩ (.slice A2 us[k].decls.length c2)).setCell ⟨w.heap.size, 3, none⟩ (.slice A3 us[k].bodies.length c3)).heap[w.heap.size]? = some (.cells #[.string us[k].pkg, .slice A1 us[k].imports.length c1, .slice A2 us[k].decls.length c2, .slice A3 us[k].bodies.length c3] 63 (0, 0)) := set_at h3 3 (.slice A3 us[k].bodies.length c3)
        have HD := Lib.hid (show (((((wr.setCell ⟨w.heap.size, 0, none⟩ (.string us[k].pkg)).setCell ⟨w.heap.size, 1, none⟩ (.slice A1 us[k].imports.length c1)).setCell ⟨w.heap.size, 2, none⟩ (.slice A2 us[k].decls.length c2)).setCell ⟨w.heap.size, 3, none⟩ (.slice A3 us[k].bodies.length c3)).alloc (.cells #[.string us[k].pkg, .slice A1 us[k].imports.length c1, .slice A2 us[k].decls.length c2, .slice A3 us[k].bodies.length c3] 63)).heap[w.heap.size]? = some (.cells #[.string us[k].pkg, .slice A1 us[k].imports.length c1, .slice A2 us[k].decls.length c2, .slice A3 us[k].bodies.length c3] 63 (0, 0)) from alloc_old h4 _)
        have HBF := Lib.hid (show Below w.heap.size w (((((wr.setCell ⟨w.heap.size, 0, none⟩ (.string us[k].pkg)).setCell ⟨w.heap.size, 1, none⟩ (.slice A1 us[k].imports.length c1)).setCell ⟨w.heap.size, 2, none⟩ (.slice A2 us[k].decls.length c2)).setCell ⟨w.heap.size, 3, none⟩ (.slice A3 us[k].bodies.length c3)).alloc (.cells #[.string us[k].pkg, .slice A1 us[k].imports.length c1, .slice A2 us[k].decls.length c2, .slice A3 us[k].bodies.length c3] 63)) from Below.chg HBW.out ((((((Chg.refl (fun j => j = w.heap.size) wr).setCell (p := ⟨w.heap.size, 0, none⟩) (fun _ => rfl) (.string us[k].pkg)).setCell (p := ⟨w.heap.size, 1, none⟩) (fun _ => rfl) (.slice A1 us[k].imports.length c1)).setCell (p := ⟨w.heap.size, 2, none⟩) (fun _ => rfl) (.slice A2 us[k].decls.length c2)).setCell (p := ⟨w.heap.size, 3, none⟩) (fun _ => rfl) (.slice A3 us[k].bodies.length c3)).alloc _) HBW.out.size (fun i hi => by omega))
        clear h0 h1 h2 h3 h4
        go_wp2_with fail
        have d0 : (((((wr.setCell ⟨w.heap.size, 0, none⟩ (.string us[k].pkg)).setCell ⟨w.heap.size, 1, none⟩ (.slice A1 us[k].imports.length c1)).setCell ⟨w.heap.size, 2, none⟩ (.slice A2 us[k].decls.length c2)).setCell ⟨w.heap.size, 3, none⟩ (.slice A3 us[k].bodies.length c3)).alloc (.cells #[.string us[k].pkg, .slice A1 us[k].imports.length c1, .slice A2 us[k].decls.length c2, .slice A3 us[k].bodies.length c3] 63)).cell? ⟨w.heap.size, 0, none⟩ = some (.string us[k].pkg) := (cell_at HD.out 0).trans rfl
        have d1 : (((((wr.setCell ⟨w.heap.size, 0, none⟩ (.string us[k].pkg)).setCell ⟨w.heap.size, 1, none⟩ (.slice A1 us[k].imports.length c1)).setCell ⟨w.heap.size, 2, none⟩ (.slice A2 us[k].decls.length c2)).setCell ⟨w.heap.size, 3, none⟩ (.slice A3 us[k].bodies.length c3)).alloc (.cells #[.string us[k].pkg, .slice A1 us[k].imports.length c1, .slice A2 us[k].decls.length c2, .slice A3 us[k].bodies.length c3] 63)).cell? ⟨w.heap.size, 1, none⟩ = some (.slice A1 us[k].imports.length c1) := (cell_at HD.out 1).trans rfl
        have d2 : (((((wr.setCell ⟨w.heap.size, 0, none⟩ (.string us[k].pkg)).setCell ⟨w.heap.size, 1, none⟩ (.slice A1 us[k].imports.length c1)).setCell ⟨w.heap.size, 2, none⟩ (.slice A2 us[k].decls.length c2)).setCell ⟨w.heap.size, 3, none⟩ (.slice A3 us[k].bodies.length c3)).alloc (.cells #[.string us[k].pkg, .slice A1 us[k].imports.length c1, .slice A2 us[k].decls.length c2, .slice A3 us[k].bodies.length c3] 63)).cell? ⟨w.heap.size, 2, none⟩ = some (.slice A2 us[k].decls.length c2) := (cell_at HD.out 2).trans rfl
        have d3 : (((((wr.setCell ⟨w.heap.size, 0, none⟩ (.string us[k].pkg)).setCell ⟨w.heap.size, 1, none⟩ (.slice A1 us[k].imports.length c1)).setCell ⟨w.heap.size, 2, none⟩ (.slice A2 us[k].decls.length c2)).setCell ⟨w.heap.size, 3, none⟩ (.slice A3 us[k].bodies.length c3)).alloc (.cells #[.string us[k].pkg, .slice A1 us[k].imports.length c1, .slice A2 us[k].decls.length c2, .slice A3 us[k].bodies.length c3] 63)).cell? ⟨w.heap.size, 3, none⟩ = some (.slice A3 us[k].bodies.length c3) := (cell_at HD.out 3).trans rfl
        refine bodyPost_ret (v := .agg #[.string us[k].pkg, .slice A1 us[k].imports.length c1, .slice A2 us[k].decls.length c2, .slice A3 us[k].bodies.length c3]) (by simp [results, Try.results56, go_sem, d0, d1, d2, d3]) rfl ⟨_, rfl, ?_, HBF.out⟩
        rw [HF.out]; exact HV.out
      | false =>
        have z' : (us[k].pkg.toList == s.toList) = false := z
        have HN2 := Lib.hid (show ∀ j (hj : j < us.length), j < k + 1 → isU s us[j] = false from fun j hj h => by
          by_cases e : j = k
          · subst e; exact z
          · exact HNO.out j hj (by omega))
        clear z
        go_wp2_with fail
        go_roundw
        case rel => exact ⟨k + 1, by omega, by go_num, HN2.out, HB.out.alloc (Nat.succ_le_of_lt hn) _⟩
        case measure => simp [intOf]; omega
    · obtain rfl : k = us.length := by omega
      have hlt' : ¬ (us.length : Int) < us.length := by omega
      have HF := Lib.hid (show unitP us s = un0 by unfold unitP; rw [find_miss (fun j hj => HNO.out j hj hj)]; rfl)
      have r0 : wr.cell? ⟨w.heap.size, 0, none⟩ = some (.string ⟨#[]⟩) := (cell_at HBZ.out 0).trans rfl
      have s0 : wr.frozen? ⟨w.heap.size, 0, none⟩ = false := free_at HBZ.out 0
      have r1 : wr.cell? ⟨w.heap.size, 1, none⟩ = some (.slice none 0 0) := (cell_at HBZ.out 1).trans rfl
      have s1 : wr.frozen? ⟨w.heap.size, 1, none⟩ = false := free_at HBZ.out 1
      have r2 : wr.cell? ⟨w.heap.size, 2, none⟩ = some (.slice none 0 0) := (cell_at HBZ.out 2).trans rfl
      have s2 : wr.frozen? ⟨w.heap.size, 2, none⟩ = false := free_at HBZ.out 2
      have r3 : wr.cell? ⟨w.heap.size, 3, none⟩ = some (.slice none 0 0) := (cell_at HBZ.out 3).trans rfl
      have s3 : wr.frozen? ⟨w.heap.size, 3, none⟩ = false := free_at HBZ.out 3
      have h0 := HBZ.out
      have h1 : (wr.setCell ⟨w.heap.size, 0, none⟩ (.string ⟨#[]⟩)).heap[w.heap.size]? = some (.cells #[.string ⟨#[]⟩, .slice none 0 0, .slice none 0 0, .slice none 0 0] 63 (0, 0)) := set_at h0 0 (.string ⟨#[]⟩)
      have h2 : ((wr.setCell ⟨w.heap.size, 0, none⟩ (.string ⟨#[]⟩)).setCell ⟨w.heap.size, 1, none⟩ (.slice none 0 0)).heap[w.heap.size]? = some (.cells #[.string ⟨#[]⟩, .slice none 0 0, .slice none 0 0, .slice none 0 0] 63 (0, 0)) := set_at h1 1 (.slice none 0 0)
      have h3 : (((wr.setCell ⟨w.heap.size, 0, none⟩ (.string ⟨#[]⟩)).setCell ⟨w.heap.size, 1, none⟩ (.slice none 0 0)).setCell ⟨w.heap.size, 2, none⟩ (.slice none 0 0)).heap[w.heap.size]? = some (.cells #[.string ⟨#[]⟩, .slice none 0 0, .slice none 0 0, .slice none 0 0] 63 (0, 0)) := set_at h2 2 (.slice none 0 0)
      have h4 : ((((wr.setCell ⟨w.heap.size, 0, none⟩ (.string ⟨#[]⟩)).setCell ⟨w.heap.size, 1, none⟩ (.slice none 0 0)).setCell ⟨w.heap.size, 2, none⟩ (.slice none 0 0)).setCell ⟨w.heap.size, 3, none⟩ (.slice none 0 0)).heap[w.heap.size]? = some (.cells #[.string ⟨#[]⟩, .slice none 0 0, .slice none 0 0, .slice none 0 0] 63 (0, 0)) := set_at h3 3 (.slice none 0 0)
      have HD := Lib.hid (show ((((wr.setCell ⟨w.heap.size, 0, none⟩ (.string ⟨#[]⟩)).setCell ⟨w.heap.size, 1, none⟩ (.slice none 0 0)).setCell ⟨w.heap.size, 2, none⟩ (.slice none 0 0)).setCell ⟨w.heap.size, 3, none⟩ (.slice none 0 0)).heap[w.heap.size]? = some (.cells #[.string ⟨#[]⟩, .slice none 0 0, .slice none 0 0, .slice none 0 0] 63 (0, 0)) from h4)
      have HBF := Lib.hid (show Below w.heap.size w ((((wr.setCell ⟨w.heap.size, 0, none⟩ (.string ⟨#[]⟩)).setCell ⟨w.heap.size, 1, none⟩ (.slice none 0 0)).setCell ⟨w.heap.size, 2, none⟩ (.slice none 0 0)).setCell ⟨w.heap.size, 3, none⟩ (.slice none 0 0)) from Below.chg HBW.out (((((Chg.refl (fun j => j = w.heap.size) wr).setCell (p := ⟨w.heap.size, 0, none⟩) (fun _ => rfl) (.string ⟨#[]⟩)).setCell (p := ⟨w.heap.size, 1, none⟩) (fun _ => rfl) (.slice none 0 0)).setCell (p := ⟨w.heap.size, 2, none⟩) (fun _ => rfl) (.slice none 0 0)).setCell (p := ⟨w.heap.size, 3, none⟩) (fun _ => rfl) (.slice none 0 0)) HBW.out.size (fun i hi => by omega))
      clear h0 h1 h2 h3 h4
      go_wp2_with fail
      have d0 : ((((wr.setCell ⟨w.heap.size, 0, none⟩ (.string ⟨#[]⟩)).setCell ⟨w.heap.size, 1, none⟩ (.slice none 0 0)).setCell ⟨w.heap.size, 2, none⟩ (.slice none 0 0)).setCell ⟨w.heap.size, 3, none⟩ (.slice none 0 0)).cell? ⟨w.heap.size, 0, none⟩ = some (.string ⟨#[]⟩) := (cell_at HD.out 0).trans rfl
      have d1 : ((((wr.setCell ⟨w.heap.size, 0, none⟩ (.string ⟨#[]⟩)).setCell ⟨w.heap.size, 1, none⟩ (.slice none 0 0)).setCell ⟨w.heap.size, 2, none⟩ (.slice none 0 0)).setCell ⟨w.heap.size, 3, none⟩ (.slice none 0 0)).cell? ⟨w.heap.size, 1, none⟩ = some (.slice none 0 0) := (cell_at HD.out 1).trans rfl
      have d2 : ((((wr.setCell ⟨w.heap.size, 0, none⟩ (.string ⟨#[]⟩)).setCell ⟨w.heap.size, 1, none⟩ (.slice none 0 0)).setCell ⟨w.heap.size, 2, none⟩ (.slice none 0 0)).setCell ⟨w.heap.size, 3, none⟩ (.slice none 0 0)).cell? ⟨w.heap.size, 2, none⟩ = some (.slice none 0 0) := (cell_at HD.out 2).trans rfl
      have d3 : ((((wr.setCell ⟨w.heap.size, 0, none⟩ (.string ⟨#[]⟩)).setCell ⟨w.heap.size, 1, none⟩ (.slice none 0 0)).setCell ⟨w.heap.size, 2, none⟩ (.slice none 0 0)).setCell ⟨w.heap.size, 3, none⟩ (.slice none 0 0)).cell? ⟨w.heap.size, 3, none⟩ = some (.slice none 0 0) := (cell_at HD.out 3).trans rfl
      refine bodyPost_ret (v := .agg #[.string ⟨#[]⟩, .slice none 0 0, .slice none 0 0, .slice none 0 0]) (by simp [results, Try.results56, go_sem, d0, d1, d2, d3]) rfl ⟨_, rfl, ?_, HBF.out⟩
      rw [HF.out]; exact Un.shut (t := un0) (by decide) (nil_sl _ _) (nil_sl _ _) (nil_sl _ _)
/-- The place of the first unit of a package; -1: none. -/
def unitI (us : List Un) (s : ByteArray) : Int := match us.findIdx? (isU s) with | some k => (k : Int) | none => -1
set_option maxRecDepth 100000 in
set_option maxHeartbeats 800000 in
theorem runit_any (w : World) (us : List Un) (s : ByteArray) (A : Option Addr) (c : Nat) (hl : SL w 4 (Un.ds us) us.length A c) : Calls Try.prog 57 #[.slice A us.length c, .string s] w fun e w' => e = .returned (.int .i64 (unitI us s)) ∧ w = w' := by
  have hr := hl.2.2.1
  unfold Reach at hr
  have HL := Lib.hid hl; clear hl
  go_enter Try.func57, Try.ntmps57
  go_wp2_with fail
  go_loop [5] (fun i => ∃ k : Nat, k ≤ us.length ∧ i = .int .i64 k ∧ (∀ j (hj : j < us.length), j < k → isU s us[j] = false)) (fun i => us.length - (intOf i).toNat)
  case atStart => exact ⟨0, Nat.zero_le _, rfl, fun j _ h => absurd h (Nat.not_lt_zero _)⟩
  case round =>
    obtain ⟨k, hk, rfl, hno⟩ := hrel
    have HNO := Lib.hid hno; clear hno
    by_cases hlt : k < us.length
    · have hlt' : (k : Int) < us.length := by omega
      obtain ⟨bb, o, hA, A1, c1, A2, c2, A3, c3, e0, e1, e2, e3, q0, q1, q2, q3⟩ := Un.at HL.out.2.2.2 k hlt
      subst hA
      clear e1 e2 e3 q0 q1 q2 q3
      cases z : isU s us[k] with
      | true =>
        have z' : (us[k].pkg.toList == s.toList) = true := z
        have HF := Lib.hid (show unitI us s = k by unfold unitI; rw [idx_hit hlt HNO.out z])
        clear z
        go_wp2_with fail
        refine bodyPost_ret (results_tmp rfl _ _ _) rfl ⟨?_, rfl⟩
        rw [HF.out]; rfl
      | false =>
        have z' : (us[k].pkg.toList == s.toList) = false := z
        have HN2 := Lib.hid (show ∀ j (hj : j < us.length), j < k + 1 → isU s us[j] = false from fun j hj h => by
          by_cases e : j = k
          · subst e; exact z
          · exact HNO.out j hj (by omega))
        clear z
        go_wp2_with fail
        go_round
        case rel => exact ⟨k + 1, by omega, by go_num, HN2.out⟩
        case measure => simp [intOf]; omega
    · obtain rfl : k = us.length := by omega
      have hlt' : ¬ (us.length : Int) < us.length := by omega
      have HF := Lib.hid (show unitI us s = -1 by unfold unitI; rw [idx_miss (fun j hj => HNO.out j hj hj)])
      go_wp2_with fail
      refine bodyPost_ret (results_tmp rfl _ _ _) rfl ⟨?_, rfl⟩
      rw [HF.out]; rfl
end Go.Proofs.Ytiecbgclkdlpkaa
