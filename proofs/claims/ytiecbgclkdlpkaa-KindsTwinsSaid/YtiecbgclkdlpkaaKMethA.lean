/-
  The walks of what kinds.Methods and mortiseref7.Methods call: what a variable must be, an interface's declaration, a list again, a field again. The condition: what is handed in reads.
-/
import Derived.Test.YtiecbgclkdlpkaaSrtO
import Derived.Test.YtiecbgclkdlpkaaKFindC
import Derived.Test.YtiecbgclkdlpkaaKEach
import Derived.Test.YtiecbgclkdlpkaaKCopied
namespace Go.Proofs.Ytiecbgclkdlpkaa
open Go.RowKit
set_option linter.unusedVariables false
set_option linter.unusedSimpArgs false
attribute [local irreducible] wpStill wpOrd wpT

theorem drew_at {w : World} {k : Nat} {x : Option Obj} (h : w.heap[k]? = x) : w.drew.heap[k]? = x := h
def isV (s : ByteArray) (f : Fld) : Bool := f.name.toList == s.toList
def ty0 : Ty := .mk 0 ⟨#[]⟩ ⟨#[]⟩ [] []
def mustP (vars : List Fld) (s : ByteArray) : Ty := ((vars.find? (isV s)).map (·.type)).getD ty0
def faceP (us : List Un) (t : Ty) : Option Dcl := if t.kind = 8 then (findP us t.pkg t.name).filter (fun d => decide (d.kind = 4)) else none
theorem ty0_vals (w : World) : Vals w ty0.d [.int .i64 0, .string ⟨#[]⟩, .string ⟨#[]⟩, .slice none 0 0, .slice none 0 0] :=
  Ty.shut (t := ty0) ⟨by decide, by decide⟩ (Nat.zero_le _) (Nat.zero_le _) (nil_sl w 5) (nil_sl w 5)
theorem dcl0_vals2 (w : World) : Vals w dcl0.d [.int .i64 0, .string ⟨#[]⟩, .string ⟨#[]⟩, .int .i64 0, .int .i64 0, .string ⟨#[]⟩, .string ⟨#[]⟩, .slice none 0 0, .slice none 0 0, .slice none 0 0] :=
  Dcl.shut (t := dcl0) ⟨by decide, by decide⟩ (Nat.zero_le _) (Nat.zero_le _) ⟨by decide, by decide⟩ ⟨by decide, by decide⟩ (Nat.zero_le _) (Nat.zero_le _) (nil_sl w 5) (nil_sl w 5) (nil_sl w 6)

set_option maxRecDepth 100000 in
set_option maxHeartbeats 3200000 in
theorem must_any (v w : World) (hvw : Below v.heap.size v w) (vars : List Fld) (s : ByteArray) (A : Option Addr) (c : Nat) (hl : SL v 6 (Fld.ds vars) vars.length A c) : Calls Try.prog 40 #[.slice A vars.length c, .string s] w (GetV v w (mustP vars s).d) := by
  have hr := hl.2.2.1
  unfold Reach at hr
  have HL := Lib.hid hl; have HVW := Lib.hid hvw; clear hl hvw
  go_enter Try.func40, Try.ntmps40
  go_wp2_with fail
  go_loopw [9] (fun i wr => ∃ k : Nat, k ≤ vars.length ∧ i = .int .i64 k ∧ (∀ j (hj : j < vars.length), j < k → isV s vars[j] = false) ∧ Below (w.heap.size + 1) (w.alloc (.cells #[.int .i64 0, .string ⟨#[]⟩, .string ⟨#[]⟩, .slice none 0 0, .slice none 0 0] 26)) wr) (fun i _ => vars.length - (intOf i).toNat)
  case atStart => exact ⟨0, Nat.zero_le _, rfl, fun j _ h => absurd h (Nat.not_lt_zero _), Below.refl _ _⟩
  case round =>
    obtain ⟨k, hk, rfl, hno, hb⟩ := hrel
    have HNO := Lib.hid hno; have HB := Lib.hid hb; clear hno hb
    have HBZ := Lib.hid ((HB.out.block _ (Nat.lt_succ_self _)).trans (alloc_at w (.cells #[.int .i64 0, .string ⟨#[]⟩, .string ⟨#[]⟩, .slice none 0 0, .slice none 0 0] 26)))
    have HBW := Lib.hid (show Below w.heap.size w wr from ((Below.refl w.heap.size w).alloc (Nat.le_refl _) (.cells #[.int .i64 0, .string ⟨#[]⟩, .string ⟨#[]⟩, .slice none 0 0, .slice none 0 0] 26)).trans (HB.out.mono (Nat.le_succ _)))
    have hn : w.heap.size < wr.heap.size := lt_of_block HBZ.out
    by_cases hlt : k < vars.length
    · have hlt' : (k : Int) < vars.length := by omega
      obtain ⟨bb, o, hA, A4, c4, A5, c5, e0, e1, e2, e3, e4, e5, q0, q1, q2, q3, q4, q5⟩ := Fld.at HL.out.2.2.2 k hlt
      subst hA
      have hsub := Below.sub (HVW.out.trans (HBW.out.mono HVW.out.size))
      have f0 := hsub _ _ e0; have f1 := hsub _ _ e1; have f2 := hsub _ _ e2; have f3 := hsub _ _ e3; have f4 := hsub _ _ e4; have f5 := hsub _ _ e5
      have HV := Lib.hid (Ty.shut (w := v) (t := vars[k].type) q1 q2 q3 q4 q5)
      clear hsub e0 e1 e2 e3 e4 e5 q0 q1 q2 q3 q4 q5
      cases z : isV s vars[k] with
      | true =>
        have z' : (vars[k].name.toList == s.toList) = true := z
        have HF := Lib.hid (show mustP vars s = vars[k].type by unfold mustP; rw [find_hit hlt HNO.out z]; rfl)
        clear z
        have r0_ : wr.cell? ⟨w.heap.size, 0, none⟩ = some (.int .i64 0) := (cell_at HBZ.out 0).trans rfl
        have s0_ : wr.frozen? ⟨w.heap.size, 0, none⟩ = false := free_at HBZ.out 0
        have r1_ : wr.cell? ⟨w.heap.size, 1, none⟩ = some (.string ⟨#[]⟩) := (cell_at HBZ.out 1).trans rfl
        have s1_ : wr.frozen? ⟨w.heap.size, 1, none⟩ = false := free_at HBZ.out 1
        have r2_ : wr.cell? ⟨w.heap.size, 2, none⟩ = some (.string ⟨#[]⟩) := (cell_at HBZ.out 2).trans rfl
        have s2_ : wr.frozen? ⟨w.heap.size, 2, none⟩ = false := free_at HBZ.out 2
        have r3_ : wr.cell? ⟨w.heap.size, 3, none⟩ = some (.slice none 0 0) := (cell_at HBZ.out 3).trans rfl
        have s3_ : wr.frozen? ⟨w.heap.size, 3, none⟩ = false := free_at HBZ.out 3
        have r4_ : wr.cell? ⟨w.heap.size, 4, none⟩ = some (.slice none 0 0) := (cell_at HBZ.out 4).trans rfl
        have s4_ : wr.frozen? ⟨w.heap.size, 4, none⟩ = false := free_at HBZ.out 4
        have h0_ := HBZ.out
        have h1_ : (wr.setCell ⟨w.heap.size, 0, none⟩ (.int .i64 vars[k].type.kind)).heap[w.heap.size]? = some (.cells #[.int .i64 vars[k].type.kind, .string ⟨#[]⟩, .string ⟨#[]⟩, .slice none 0 0, .slice none 0 0] 26 (0, 0)) := set_at h0_ 0 (.int .i64 vars[k].type.kind)
        have h2_ : ((wr.setCell ⟨w.heap.size, 0, none⟩ (.int .i64 vars[k].type.kind)).setCell ⟨w.heap.size, 1, none⟩ (.string vars[k].type.pkg)).heap[w.heap.size]? = some (.cells #[.int .i64 vars[k].type.kind, .string vars[k].type.pkg, .string ⟨#[]⟩, .slice none 0 0, .slice none 0 0] 26 (0, 0)) := set_at h1_ 1 (.string vars[k].type.pkg)
        have h3_ : (((wr.setCell ⟨w.heap.size, 0, none⟩ (.int .i64 vars[k].type.kind)).setCell ⟨w.heap.size, 1, none⟩ (.string vars[k].type.pkg)).setCell ⟨w.heap.size, 2, none⟩ (.string vars[k].type.name)).heap[w.heap.size]? = some (.cells #[.int .i64 vars[k].type.kind, .string vars[k].type.pkg, .string vars[k].type.name, .slice none 0 0, .slice none 0 0] 26 (0, 0)) := set_at h2_ 2 (.string vars[k].type.name)
        have h4_ : ((((wr.setCell ⟨w.heap.size, 0, none⟩ (.int .i64 vars[k].type.kind)).setCell ⟨w.heap.size, 1, none⟩ (.string vars[k].type.pkg)).setCell ⟨w.heap.size, 2, none⟩ (.string vars[k].type.name)).setCell ⟨w.heap.size, 3, none⟩ (.slice A4 vars[k].type.args.length c4)).heap[w.heap.size]? = some (.cells #[.int .i64 vars[k].type.kind, .string vars[k].type.pkg, .string vars[k].type.name, .slice A4 vars[k].type.args.length c4, .slice none 0 0] 26 (0, 0)) := set_at h3_ 3 (.slice A4 vars[k].type.args.length c4)
        have h5_ : (((((wr.setCell ⟨w.heap.size, 0, none⟩ (.int .i64 vars[k].type.kind)).setCell ⟨w.heap.size, 1, none⟩ (.string vars[k].type.pkg)).setCell ⟨w.heap.size, 2, none⟩ (.string vars[k].type.name)).setCell ⟨w.heap.size, 3, none⟩ (.slice A4 vars[k].type.args.length c4)).setCell ⟨w.heap.size, 4, none⟩ (.slice A5 vars[k].type.res.length c5)).heap[w.heap.size]? = some (.cells #[.int .i64 vars[k].type.kind, .string vars[k].type.pkg, .string vars[k].type.name, .slice A4 vars[k].type.args.length c4, .slice A5 vars[k].type.res.length c5] 26 (0, 0)) := set_at h4_ 4 (.slice A5 vars[k].type.res.length c5)
        have HD := Lib.hid (show ((((((wr.setCell ⟨w.heap.size, 0, none⟩ (.int .i64 vars[k].type.kind)).setCell ⟨w.heap.size, 1, none⟩ (.string vars[k].type.pkg)).setCell ⟨w.heap.size, 2, none⟩ (.string vars[k].type.name)).setCell ⟨w.heap.size, 3, none⟩ (.slice A4 vars[k].type.args.length c4)).setCell ⟨w.heap.size, 4, none⟩ (.slice A5 vars[k].type.res.length c5)).alloc (.cells #[.string vars[k].name, .int .i64 vars[k].type.kind, .string vars[k].type.pkg, .string vars[k].type.name, .slice A4 vars[k].type.args.length c4, .slice A5 vars[k].type.res.length c5] 56)).heap[w.heap.size]? = some (.cells #[.int .i64 vars[k].type.kind, .string vars[k].type.pkg, .string vars[k].type.name, .slice A4 vars[k].type.args.length c4, .slice A5 vars[k].type.res.length c5] 26 (0, 0)) from alloc_old h5_ _)
        have HBF := Lib.hid (show Below w.heap.size w ((((((wr.setCell ⟨w.heap.size, 0, none⟩ (.int .i64 vars[k].type.kind)).setCell ⟨w.heap.size, 1, none⟩ (.string vars[k].type.pkg)).setCell ⟨w.heap.size, 2, none⟩ (.string vars[k].type.name)).setCell ⟨w.heap.size, 3, none⟩ (.slice A4 vars[k].type.args.length c4)).setCell ⟨w.heap.size, 4, none⟩ (.slice A5 vars[k].type.res.length c5)).alloc (.cells #[.string vars[k].name, .int .i64 vars[k].type.kind, .string vars[k].type.pkg, .string vars[k].type.name, .slice A4 vars[k].type.args.length c4, .slice A5 vars[k].type.res.length c5] 56)) from Below.chg HBW.out (((((((Chg.refl (fun j => j = w.heap.size) wr).setCell (p := ⟨w.heap.size, 0, none⟩) (fun _ => rfl) (.int .i64 vars[k].type.kind)).setCell (p := ⟨w.heap.size, 1, none⟩) (fun _ => rfl) (.string vars[k].type.pkg)).setCell (p := ⟨w.heap.size, 2, none⟩) (fun _ => rfl) (.string vars[k].type.name)).setCell (p := ⟨w.heap.size, 3, none⟩) (fun _ => rfl) (.slice A4 vars[k].type.args.length c4)).setCell (p := ⟨w.heap.size, 4, none⟩) (fun _ => rfl) (.slice A5 vars[k].type.res.length c5)).alloc _) HBW.out.size (fun i hi => by omega))
        clear h0_ h1_ h2_ h3_ h4_ h5_
        go_wp2_with fail
        have d0 : ((((((wr.setCell ⟨w.heap.size, 0, none⟩ (.int .i64 vars[k].type.kind)).setCell ⟨w.heap.size, 1, none⟩ (.string vars[k].type.pkg)).setCell ⟨w.heap.size, 2, none⟩ (.string vars[k].type.name)).setCell ⟨w.heap.size, 3, none⟩ (.slice A4 vars[k].type.args.length c4)).setCell ⟨w.heap.size, 4, none⟩ (.slice A5 vars[k].type.res.length c5)).alloc (.cells #[.string vars[k].name, .int .i64 vars[k].type.kind, .string vars[k].type.pkg, .string vars[k].type.name, .slice A4 vars[k].type.args.length c4, .slice A5 vars[k].type.res.length c5] 56)).cell? ⟨w.heap.size, 0, none⟩ = some (.int .i64 vars[k].type.kind) := (cell_at HD.out 0).trans rfl
        have d1 : ((((((wr.setCell ⟨w.heap.size, 0, none⟩ (.int .i64 vars[k].type.kind)).setCell ⟨w.heap.size, 1, none⟩ (.string vars[k].type.pkg)).setCell ⟨w.heap.size, 2, none⟩ (.string vars[k].type.name)).setCell ⟨w.heap.size, 3, none⟩ (.slice A4 vars[k].type.args.length c4)).setCell ⟨w.heap.size, 4, none⟩ (.slice A5 vars[k].type.res.length c5)).alloc (.cells #[.string vars[k].name, .int .i64 vars[k].type.kind, .string vars[k].type.pkg, .string vars[k].type.name, .slice A4 vars[k].type.args.length c4, .slice A5 vars[k].type.res.length c5] 56)).cell? ⟨w.heap.size, 1, none⟩ = some (.string vars[k].type.pkg) := (cell_at HD.out 1).trans rfl
        have d2 : ((((((wr.setCell ⟨w.heap.size, 0, none⟩ (.int .i64 vars[k].type.kind)).setCell ⟨w.heap.size, 1, none⟩ (.string vars[k].type.pkg)).setCell ⟨w.heap.size, 2, none⟩ (.string vars[k].type.name)).setCell ⟨w.heap.size, 3, none⟩ (.slice A4 vars[k].type.args.length c4)).setCell ⟨w.heap.size, 4, none⟩ (.slice A5 vars[k].type.res.length c5)).alloc (.cells #[.string vars[k].name, .int .i64 vars[k].type.kind, .string vars[k].type.pkg, .string vars[k].type.name, .slice A4 vars[k].type.args.length c4, .slice A5 vars[k].type.res.length c5] 56)).cell? ⟨w.heap.size, 2, none⟩ = some (.string vars[k].type.name) := (cell_at HD.out 2).trans rfl
        have d3 : ((((((wr.setCell ⟨w.heap.size, 0, none⟩ (.int .i64 vars[k].type.kind)).setCell ⟨w.heap.size, 1, none⟩ (.string vars[k].type.pkg)).setCell ⟨w.heap.size, 2, none⟩ (.string vars[k].type.name)).setCell ⟨w.heap.size, 3, none⟩ (.slice A4 vars[k].type.args.length c4)).setCell ⟨w.heap.size, 4, none⟩ (.slice A5 vars[k].type.res.length c5)).alloc (.cells #[.string vars[k].name, .int .i64 vars[k].type.kind, .string vars[k].type.pkg, .string vars[k].type.name, .slice A4 vars[k].type.args.length c4, .slice A5 vars[k].type.res.length c5] 56)).cell? ⟨w.heap.size, 3, none⟩ = some (.slice A4 vars[k].type.args.length c4) := (cell_at HD.out 3).trans rfl
        have d4 : ((((((wr.setCell ⟨w.heap.size, 0, none⟩ (.int .i64 vars[k].type.kind)).setCell ⟨w.heap.size, 1, none⟩ (.string vars[k].type.pkg)).setCell ⟨w.heap.size, 2, none⟩ (.string vars[k].type.name)).setCell ⟨w.heap.size, 3, none⟩ (.slice A4 vars[k].type.args.length c4)).setCell ⟨w.heap.size, 4, none⟩ (.slice A5 vars[k].type.res.length c5)).alloc (.cells #[.string vars[k].name, .int .i64 vars[k].type.kind, .string vars[k].type.pkg, .string vars[k].type.name, .slice A4 vars[k].type.args.length c4, .slice A5 vars[k].type.res.length c5] 56)).cell? ⟨w.heap.size, 4, none⟩ = some (.slice A5 vars[k].type.res.length c5) := (cell_at HD.out 4).trans rfl
        refine bodyPost_ret (v := .agg #[.int .i64 vars[k].type.kind, .string vars[k].type.pkg, .string vars[k].type.name, .slice A4 vars[k].type.args.length c4, .slice A5 vars[k].type.res.length c5]) (by simp [results, Try.results40, go_sem, d0, d1, d2, d3, d4]) rfl ⟨_, rfl, ?_, HBF.out⟩
        rw [HF.out]; exact HV.out
      | false =>
        have z' : (vars[k].name.toList == s.toList) = false := z
        have HN2 := Lib.hid (show ∀ j (hj : j < vars.length), j < k + 1 → isV s vars[j] = false from fun j hj h => by
          by_cases e : j = k
          · subst e; exact z
          · exact HNO.out j hj (by omega))
        clear z
        go_wp2_with fail
        go_roundw
        case rel => exact ⟨k + 1, by omega, by go_num, HN2.out, HB.out.alloc (Nat.succ_le_of_lt hn) _⟩
        case measure => simp [intOf]; omega
    · obtain rfl : k = vars.length := by omega
      have hlt' : ¬ (vars.length : Int) < vars.length := by omega
      have HF := Lib.hid (show mustP vars s = ty0 by unfold mustP; rw [find_miss (fun j hj => HNO.out j hj hj)]; rfl)
      have r0_ : wr.cell? ⟨w.heap.size, 0, none⟩ = some (.int .i64 0) := (cell_at HBZ.out 0).trans rfl
      have s0_ : wr.frozen? ⟨w.heap.size, 0, none⟩ = false := free_at HBZ.out 0
      have r1_ : wr.cell? ⟨w.heap.size, 1, none⟩ = some (.string ⟨#[]⟩) := (cell_at HBZ.out 1).trans rfl
      have s1_ : wr.frozen? ⟨w.heap.size, 1, none⟩ = false := free_at HBZ.out 1
      have r2_ : wr.cell? ⟨w.heap.size, 2, none⟩ = some (.string ⟨#[]⟩) := (cell_at HBZ.out 2).trans rfl
      have s2_ : wr.frozen? ⟨w.heap.size, 2, none⟩ = false := free_at HBZ.out 2
      have r3_ : wr.cell? ⟨w.heap.size, 3, none⟩ = some (.slice none 0 0) := (cell_at HBZ.out 3).trans rfl
      have s3_ : wr.frozen? ⟨w.heap.size, 3, none⟩ = false := free_at HBZ.out 3
      have r4_ : wr.cell? ⟨w.heap.size, 4, none⟩ = some (.slice none 0 0) := (cell_at HBZ.out 4).trans rfl
      have s4_ : wr.frozen? ⟨w.heap.size, 4, none⟩ = false := free_at HBZ.out 4
      have h0_ := HBZ.out
      have h1_ : (wr.setCell ⟨w.heap.size, 0, none⟩ (.int .i64 0)).heap[w.heap.size]? = some (.cells #[.int .i64 0, .string ⟨#[]⟩, .string ⟨#[]⟩, .slice none 0 0, .slice none 0 0] 26 (0, 0)) := set_at h0_ 0 (.int .i64 0)
      have h2_ : ((wr.setCell ⟨w.heap.size, 0, none⟩ (.int .i64 0)).setCell ⟨w.heap.size, 1, none⟩ (.string ⟨#[]⟩)).heap[w.heap.size]? = some (.cells #[.int .i64 0, .string ⟨#[]⟩, .string ⟨#[]⟩, .slice none 0 0, .slice none 0 0] 26 (0, 0)) := set_at h1_ 1 (.string ⟨#[]⟩)
      have h3_ : (((wr.setCell ⟨w.heap.size, 0, none⟩ (.int .i64 0)).setCell ⟨w.heap.size, 1, none⟩ (.string ⟨#[]⟩)).setCell ⟨w.heap.size, 2, none⟩ (.string ⟨#[]⟩)).heap[w.heap.size]? = some (.cells #[.int .i64 0, .string ⟨#[]⟩, .string ⟨#[]⟩, .slice none 0 0, .slice none 0 0] 26 (0, 0)) := set_at h2_ 2 (.string ⟨#[]⟩)
      have h4_ : ((((wr.setCell ⟨w.heap.size, 0, none⟩ (.int .i64 0)).setCell ⟨w.heap.size, 1, none⟩ (.string ⟨#[]⟩)).setCell ⟨w.heap.size, 2, none⟩ (.string ⟨#[]⟩)).setCell ⟨w.heap.size, 3, none⟩ (.slice none 0 0)).heap[w.heap.size]? = some (.cells #[.int .i64 0, .string ⟨#[]⟩, .string ⟨#[]⟩, .slice none 0 0, .slice none 0 0] 26 (0, 0)) := set_at h3_ 3 (.slice none 0 0)
      have h5_ : (((((wr.setCell ⟨w.heap.size, 0, none⟩ (.int .i64 0)).setCell ⟨w.heap.size, 1, none⟩ (.string ⟨#[]⟩)).setCell ⟨w.heap.size, 2, none⟩ (.string ⟨#[]⟩)).setCell ⟨w.heap.size, 3, none⟩ (.slice none 0 0)).setCell ⟨w.heap.size, 4, none⟩ (.slice none 0 0)).heap[w.heap.size]? = some (.cells #[.int .i64 0, .string ⟨#[]⟩, .string ⟨#[]⟩, .slice none 0 0, .slice none 0 0] 26 (0, 0)) := set_at h4_ 4 (.slice none 0 0)
      have HD := Lib.hid h5_
      have HBF := Lib.hid (show Below w.heap.size w (((((wr.setCell ⟨w.heap.size, 0, none⟩ (.int .i64 0)).setCell ⟨w.heap.size, 1, none⟩ (.string ⟨#[]⟩)).setCell ⟨w.heap.size, 2, none⟩ (.string ⟨#[]⟩)).setCell ⟨w.heap.size, 3, none⟩ (.slice none 0 0)).setCell ⟨w.heap.size, 4, none⟩ (.slice none 0 0)) from Below.chg HBW.out ((((((Chg.refl (fun j => j = w.heap.size) wr).setCell (p := ⟨w.heap.size, 0, none⟩) (fun _ => rfl) (.int .i64 0)).setCell (p := ⟨w.heap.size, 1, none⟩) (fun _ => rfl) (.string ⟨#[]⟩)).setCell (p := ⟨w.heap.size, 2, none⟩) (fun _ => rfl) (.string ⟨#[]⟩)).setCell (p := ⟨w.heap.size, 3, none⟩) (fun _ => rfl) (.slice none 0 0)).setCell (p := ⟨w.heap.size, 4, none⟩) (fun _ => rfl) (.slice none 0 0)) HBW.out.size (fun i hi => by omega))
      clear h0_ h1_ h2_ h3_ h4_ h5_
      go_wp2_with fail
      have d0 : (((((wr.setCell ⟨w.heap.size, 0, none⟩ (.int .i64 0)).setCell ⟨w.heap.size, 1, none⟩ (.string ⟨#[]⟩)).setCell ⟨w.heap.size, 2, none⟩ (.string ⟨#[]⟩)).setCell ⟨w.heap.size, 3, none⟩ (.slice none 0 0)).setCell ⟨w.heap.size, 4, none⟩ (.slice none 0 0)).cell? ⟨w.heap.size, 0, none⟩ = some (.int .i64 0) := (cell_at HD.out 0).trans rfl
      have d1 : (((((wr.setCell ⟨w.heap.size, 0, none⟩ (.int .i64 0)).setCell ⟨w.heap.size, 1, none⟩ (.string ⟨#[]⟩)).setCell ⟨w.heap.size, 2, none⟩ (.string ⟨#[]⟩)).setCell ⟨w.heap.size, 3, none⟩ (.slice none 0 0)).setCell ⟨w.heap.size, 4, none⟩ (.slice none 0 0)).cell? ⟨w.heap.size, 1, none⟩ = some (.string ⟨#[]⟩) := (cell_at HD.out 1).trans rfl
      have d2 : (((((wr.setCell ⟨w.heap.size, 0, none⟩ (.int .i64 0)).setCell ⟨w.heap.size, 1, none⟩ (.string ⟨#[]⟩)).setCell ⟨w.heap.size, 2, none⟩ (.string ⟨#[]⟩)).setCell ⟨w.heap.size, 3, none⟩ (.slice none 0 0)).setCell ⟨w.heap.size, 4, none⟩ (.slice none 0 0)).cell? ⟨w.heap.size, 2, none⟩ = some (.string ⟨#[]⟩) := (cell_at HD.out 2).trans rfl
      have d3 : (((((wr.setCell ⟨w.heap.size, 0, none⟩ (.int .i64 0)).setCell ⟨w.heap.size, 1, none⟩ (.string ⟨#[]⟩)).setCell ⟨w.heap.size, 2, none⟩ (.string ⟨#[]⟩)).setCell ⟨w.heap.size, 3, none⟩ (.slice none 0 0)).setCell ⟨w.heap.size, 4, none⟩ (.slice none 0 0)).cell? ⟨w.heap.size, 3, none⟩ = some (.slice none 0 0) := (cell_at HD.out 3).trans rfl
      have d4 : (((((wr.setCell ⟨w.heap.size, 0, none⟩ (.int .i64 0)).setCell ⟨w.heap.size, 1, none⟩ (.string ⟨#[]⟩)).setCell ⟨w.heap.size, 2, none⟩ (.string ⟨#[]⟩)).setCell ⟨w.heap.size, 3, none⟩ (.slice none 0 0)).setCell ⟨w.heap.size, 4, none⟩ (.slice none 0 0)).cell? ⟨w.heap.size, 4, none⟩ = some (.slice none 0 0) := (cell_at HD.out 4).trans rfl
      refine bodyPost_ret (v := .agg #[.int .i64 0, .string ⟨#[]⟩, .string ⟨#[]⟩, .slice none 0 0, .slice none 0 0]) (by simp [results, Try.results40, go_sem, d0, d1, d2, d3, d4]) rfl ⟨_, rfl, ?_, HBF.out⟩
      rw [HF.out]; exact ty0_vals v
def knownI (vars : List Fld) (s : ByteArray) : Int := match vars.findIdx? (isV s) with | some k => k | none => -1
set_option maxRecDepth 100000 in
set_option maxHeartbeats 1600000 in
theorem known_any (w : World) (vars : List Fld) (s : ByteArray) (A : Option Addr) (c : Nat) (hl : SL w 6 (Fld.ds vars) vars.length A c) : Calls Try.prog 45 #[.slice A vars.length c, .string s] w (fun e w' => e = .returned (.int .i64 (knownI vars s)) ∧ w = w') := by
  have hr := hl.2.2.1
  unfold Reach at hr
  have HL := Lib.hid hl; clear hl
  go_enter Try.func45, Try.ntmps45
  go_wp2_with fail
  go_loop [5] (fun i => ∃ k : Nat, k ≤ vars.length ∧ i = .int .i64 k ∧ (∀ j (hj : j < vars.length), j < k → isV s vars[j] = false)) (fun i => vars.length - (intOf i).toNat)
  case atStart => exact ⟨0, Nat.zero_le _, rfl, fun j _ h => absurd h (Nat.not_lt_zero _)⟩
  case round =>
    obtain ⟨k, hk, rfl, hno⟩ := hrel
    have HNO := Lib.hid hno; clear hno
    by_cases hlt : k < vars.length
    · have hlt' : (k : Int) < vars.length := by omega
      obtain ⟨bb, o, hA, A4, c4, A5, c5, e0, e1, e2, e3, e4, e5, q0, q1, q2, q3, q4, q5⟩ := Fld.at HL.out.2.2.2 k hlt
      subst hA
      clear e1 e2 e3 e4 e5 q0 q1 q2 q3 q4 q5
      cases z : isV s vars[k] with
      | true =>
        have z' : (vars[k].name.toList == s.toList) = true := z
        have HF := Lib.hid (show knownI vars s = (k : Int) by unfold knownI; rw [idx_hit hlt HNO.out z])
        clear z
        go_wp2_with fail
        exact bodyPost_ret (results_tmp rfl _ _ _) rfl ⟨by rw [HF.out]; rfl, rfl⟩
      | false =>
        have z' : (vars[k].name.toList == s.toList) = false := z
        have HN2 := Lib.hid (show ∀ j (hj : j < vars.length), j < k + 1 → isV s vars[j] = false from fun j hj h => by
          by_cases e : j = k
          · subst e; exact z
          · exact HNO.out j hj (by omega))
        clear z
        go_wp2_with fail
        go_round
        case rel => exact ⟨k + 1, by omega, by go_num, HN2.out⟩
        case measure => simp [intOf]; omega
    · obtain rfl : k = vars.length := by omega
      have hlt' : ¬ (vars.length : Int) < vars.length := by omega
      have HF := Lib.hid (show knownI vars s = -1 by unfold knownI; rw [idx_miss (fun j hj => HNO.out j hj hj)])
      go_wp2_with fail
      exact bodyPost_ret (results_tmp rfl _ _ _) rfl ⟨by rw [HF.out]; rfl, rfl⟩
theorem enters_meth2 : Enters 63 := fun args w => by simp [go_sem]
set_option maxRecDepth 100000 in
set_option maxHeartbeats 3200000 in
theorem meth2_any (w : World) (f : Fld) (vs : List Value) (hv : Vals w f.d vs) (hz : f.type.sz ≤ 1000000) : Calls Try.prog 63 #[.agg vs.toArray] w (NewV w Fld.d f) := by
  have hv0 := hv
  obtain ⟨A4, c4, A5, c5, rfl, q0, q1, q2, q3, q4, q5⟩ := Fld.opn hv
  have HB := Lib.hid (show Below w.heap.size w ((w.alloc (.cells #[.string f.name, .int .i64 f.type.kind, .string f.type.pkg, .string f.type.name, .slice A4 f.type.args.length c4, .slice A5 f.type.res.length c5] 56)).alloc (.cells #[.string ⟨#[]⟩, .int .i64 0, .string ⟨#[]⟩, .string ⟨#[]⟩, .slice none 0 0, .slice none 0 0] 56)) from ((Below.refl w.heap.size w).alloc (Nat.le_refl _) _).alloc (by simp) _)
  have HS := Lib.hid (show ((w.alloc (.cells #[.string f.name, .int .i64 f.type.kind, .string f.type.pkg, .string f.type.name, .slice A4 f.type.args.length c4, .slice A5 f.type.res.length c5] 56)).alloc (.cells #[.string ⟨#[]⟩, .int .i64 0, .string ⟨#[]⟩, .string ⟨#[]⟩, .slice none 0 0, .slice none 0 0] 56)).heap[w.heap.size]? = some (.cells #[.string f.name, .int .i64 f.type.kind, .string f.type.pkg, .string f.type.name, .slice A4 f.type.args.length c4, .slice A5 f.type.res.length c5] 56 (0, 0)) from alloc_old (alloc_at w _) _)
  have hr := alloc_at (w.alloc (.cells #[.string f.name, .int .i64 f.type.kind, .string f.type.pkg, .string f.type.name, .slice A4 f.type.args.length c4, .slice A5 f.type.res.length c5] 56)) (.cells #[.string ⟨#[]⟩, .int .i64 0, .string ⟨#[]⟩, .string ⟨#[]⟩, .slice none 0 0, .slice none 0 0] 56)
  rw [World.size_alloc] at hr
  have HR := Lib.hid (show ((w.alloc (.cells #[.string f.name, .int .i64 f.type.kind, .string f.type.pkg, .string f.type.name, .slice A4 f.type.args.length c4, .slice A5 f.type.res.length c5] 56)).alloc (.cells #[.string ⟨#[]⟩, .int .i64 0, .string ⟨#[]⟩, .string ⟨#[]⟩, .slice none 0 0, .slice none 0 0] 56)).heap[w.heap.size + 1]? = some (.cells #[.string ⟨#[]⟩, .int .i64 0, .string ⟨#[]⟩, .string ⟨#[]⟩, .slice none 0 0, .slice none 0 0] 56 (0, 0)) from hr)
  have HC := Lib.hid (copTy f.type hz ((w.alloc (.cells #[.string f.name, .int .i64 f.type.kind, .string f.type.pkg, .string f.type.name, .slice A4 f.type.args.length c4, .slice A5 f.type.res.length c5] 56)).alloc (.cells #[.string ⟨#[]⟩, .int .i64 0, .string ⟨#[]⟩, .string ⟨#[]⟩, .slice none 0 0, .slice none 0 0] 56)).drew _ ((Ty.shut (w := w) (t := f.type) q1 q2 q3 q4 q5).sub (Below.sub HB.out.drew)))
  have Q0 := Lib.hid q0
  clear hv hv0 q0 q1 q2 q3 q4 q5 hr
  go_enter Try.func63, Try.ntmps63
  go_wp2_with fail
  obtain ⟨wz, hz⟩ : ∃ x, x = ((w.alloc (.cells #[.string f.name, .int .i64 f.type.kind, .string f.type.pkg, .string f.type.name, .slice A4 f.type.args.length c4, .slice A5 f.type.res.length c5] 56)).alloc (.cells #[.string ⟨#[]⟩, .int .i64 0, .string ⟨#[]⟩, .string ⟨#[]⟩, .slice none 0 0, .slice none 0 0] 56)) := ⟨_, rfl⟩
  have hb := HB.out; have hs := HS.out; have hr := HR.out; have hc := HC.out
  rw [← hz] at hb hs hr hc
  rw [← hz]
  clear hz HB HS HR HC
  have HB := Lib.hid hb; have HS := Lib.hid hs; have HR := Lib.hid hr; have HC := Lib.hid hc; have HZS := Lib.hid (lt_of_block hr)
  clear hb hs hr hc
  refine wp_region_otN (fun wS => Chg (fun j => j = w.heap.size + 1) wz wS) (.get 0 (.get 1 (.get 2 (.get 3 (.one 4 (.get 5 (.one 6 .done))))))) (by kernel_rfl) (by kernel_rfl) (Chg.refl _ _).drew ?_
  apply wpT_get rfl
  · go_simp
  · intro wS hS
    go_simp
    try rfl
  intro K hK
  go_simp
  refine hK _ ?_
  clear hK K
  apply wpT_get rfl
  · go_simp
  · intro wS hS
    have x0 := (cell_at (hS.heap HS.out (by show ¬ _ = _; omega)) 0).trans rfl
    go_simp
    try rfl
  intro K hK
  go_simp
  refine hK _ ?_
  clear hK K
  apply wpT_get rfl
  · go_simp
  · intro wS hS
    go_simp
    try rfl
  intro K hK
  go_simp
  refine hK _ ?_
  clear hK K
  apply wpT_get rfl
  · go_simp
  · intro wS hS
    have x1 := (cell_at (hS.heap HS.out (by show ¬ _ = _; omega)) 1).trans rfl
    have x2 := (cell_at (hS.heap HS.out (by show ¬ _ = _; omega)) 2).trans rfl
    have x3 := (cell_at (hS.heap HS.out (by show ¬ _ = _; omega)) 3).trans rfl
    have x4 := (cell_at (hS.heap HS.out (by show ¬ _ = _; omega)) 4).trans rfl
    have x5 := (cell_at (hS.heap HS.out (by show ¬ _ = _; omega)) 5).trans rfl
    go_simp
    try rfl
  intro K hK
  go_simp
  refine hK _ ?_
  clear hK K
  refine wpT_one rfl (fun K hK => ?_)
  go_wp2_with fail
  refine HC.out.mono ?_
  obtain ⟨y, hy⟩ : ∃ y, y = f.type := ⟨_, rfl⟩
  rw [← hy]
  have HY := Lib.hid hy
  clear hy
  rintro e w2 ⟨vs2, rfl, hv2, hb2⟩
  have HV2 := Lib.hid hv2
  obtain ⟨B4, d4, B5, d5, rfl, y0, y1, y2, y3, y4⟩ := Ty.opn hv2
  have HCN := Lib.hid (show Chg (fun _ => False) wz w2 from (Chg.refl _ wz).drew.trans (below_none hb2) (fun _ _ e => e))
  have HR2 := Lib.hid (HCN.out.heap HR.out id)
  clear hv2 hb2 y0 y1 y2 y3 y4
  go_wp2_with fail
  refine hK _ _ (HCN.out.mono (fun _ _ e => e.elim)) ?_
  clear hK K
  apply wpT_get rfl
  · go_simp
  · intro wS hS
    go_simp
    try rfl
  intro K hK
  go_simp
  refine hK _ ?_
  clear hK K
  have r0_ : w2.cell? ⟨w.heap.size + 1, 0, none⟩ = some (.string ⟨#[]⟩) := (cell_at HR2.out 0).trans rfl
  have s0_ : w2.frozen? ⟨w.heap.size + 1, 0, none⟩ = false := free_at HR2.out 0
  have r1_ : w2.cell? ⟨w.heap.size + 1, 1, none⟩ = some (.int .i64 0) := (cell_at HR2.out 1).trans rfl
  have s1_ : w2.frozen? ⟨w.heap.size + 1, 1, none⟩ = false := free_at HR2.out 1
  have r2_ : w2.cell? ⟨w.heap.size + 1, 2, none⟩ = some (.string ⟨#[]⟩) := (cell_at HR2.out 2).trans rfl
  have s2_ : w2.frozen? ⟨w.heap.size + 1, 2, none⟩ = false := free_at HR2.out 2
  have r3_ : w2.cell? ⟨w.heap.size + 1, 3, none⟩ = some (.string ⟨#[]⟩) := (cell_at HR2.out 3).trans rfl
  have s3_ : w2.frozen? ⟨w.heap.size + 1, 3, none⟩ = false := free_at HR2.out 3
  have r4_ : w2.cell? ⟨w.heap.size + 1, 4, none⟩ = some (.slice none 0 0) := (cell_at HR2.out 4).trans rfl
  have s4_ : w2.frozen? ⟨w.heap.size + 1, 4, none⟩ = false := free_at HR2.out 4
  have r5_ : w2.cell? ⟨w.heap.size + 1, 5, none⟩ = some (.slice none 0 0) := (cell_at HR2.out 5).trans rfl
  have s5_ : w2.frozen? ⟨w.heap.size + 1, 5, none⟩ = false := free_at HR2.out 5
  have h0_ := HR2.out
  have h1_ : (w2.setCell ⟨w.heap.size + 1, 0, none⟩ (.string f.name)).heap[w.heap.size + 1]? = some (.cells #[.string f.name, .int .i64 0, .string ⟨#[]⟩, .string ⟨#[]⟩, .slice none 0 0, .slice none 0 0] 56 (0, 0)) := set_at h0_ 0 (.string f.name)
  have h2_ : ((w2.setCell ⟨w.heap.size + 1, 0, none⟩ (.string f.name)).setCell ⟨w.heap.size + 1, 1, none⟩ (.int .i64 y.kind)).heap[w.heap.size + 1]? = some (.cells #[.string f.name, .int .i64 y.kind, .string ⟨#[]⟩, .string ⟨#[]⟩, .slice none 0 0, .slice none 0 0] 56 (0, 0)) := set_at h1_ 1 (.int .i64 y.kind)
  have h3_ : (((w2.setCell ⟨w.heap.size + 1, 0, none⟩ (.string f.name)).setCell ⟨w.heap.size + 1, 1, none⟩ (.int .i64 y.kind)).setCell ⟨w.heap.size + 1, 2, none⟩ (.string y.pkg)).heap[w.heap.size + 1]? = some (.cells #[.string f.name, .int .i64 y.kind, .string y.pkg, .string ⟨#[]⟩, .slice none 0 0, .slice none 0 0] 56 (0, 0)) := set_at h2_ 2 (.string y.pkg)
  have h4_ : ((((w2.setCell ⟨w.heap.size + 1, 0, none⟩ (.string f.name)).setCell ⟨w.heap.size + 1, 1, none⟩ (.int .i64 y.kind)).setCell ⟨w.heap.size + 1, 2, none⟩ (.string y.pkg)).setCell ⟨w.heap.size + 1, 3, none⟩ (.string y.name)).heap[w.heap.size + 1]? = some (.cells #[.string f.name, .int .i64 y.kind, .string y.pkg, .string y.name, .slice none 0 0, .slice none 0 0] 56 (0, 0)) := set_at h3_ 3 (.string y.name)
  have h5_ : (((((w2.setCell ⟨w.heap.size + 1, 0, none⟩ (.string f.name)).setCell ⟨w.heap.size + 1, 1, none⟩ (.int .i64 y.kind)).setCell ⟨w.heap.size + 1, 2, none⟩ (.string y.pkg)).setCell ⟨w.heap.size + 1, 3, none⟩ (.string y.name)).setCell ⟨w.heap.size + 1, 4, none⟩ (.slice B4 y.args.length d4)).heap[w.heap.size + 1]? = some (.cells #[.string f.name, .int .i64 y.kind, .string y.pkg, .string y.name, .slice B4 y.args.length d4, .slice none 0 0] 56 (0, 0)) := set_at h4_ 4 (.slice B4 y.args.length d4)
  have h6_ : ((((((w2.setCell ⟨w.heap.size + 1, 0, none⟩ (.string f.name)).setCell ⟨w.heap.size + 1, 1, none⟩ (.int .i64 y.kind)).setCell ⟨w.heap.size + 1, 2, none⟩ (.string y.pkg)).setCell ⟨w.heap.size + 1, 3, none⟩ (.string y.name)).setCell ⟨w.heap.size + 1, 4, none⟩ (.slice B4 y.args.length d4)).setCell ⟨w.heap.size + 1, 5, none⟩ (.slice B5 y.res.length d5)).heap[w.heap.size + 1]? = some (.cells #[.string f.name, .int .i64 y.kind, .string y.pkg, .string y.name, .slice B4 y.args.length d4, .slice B5 y.res.length d5] 56 (0, 0)) := set_at h5_ 5 (.slice B5 y.res.length d5)
  have HD := Lib.hid h6_
  have HSET := Lib.hid (show Chg (fun j => j = w.heap.size + 1) w2 ((((((w2.setCell ⟨w.heap.size + 1, 0, none⟩ (.string f.name)).setCell ⟨w.heap.size + 1, 1, none⟩ (.int .i64 y.kind)).setCell ⟨w.heap.size + 1, 2, none⟩ (.string y.pkg)).setCell ⟨w.heap.size + 1, 3, none⟩ (.string y.name)).setCell ⟨w.heap.size + 1, 4, none⟩ (.slice B4 y.args.length d4)).setCell ⟨w.heap.size + 1, 5, none⟩ (.slice B5 y.res.length d5)) from (((((((Chg.refl (fun j => j = w.heap.size + 1) w2).setCell (p := ⟨w.heap.size + 1, 0, none⟩) (fun _ => rfl) (.string f.name)).setCell (p := ⟨w.heap.size + 1, 1, none⟩) (fun _ => rfl) (.int .i64 y.kind)).setCell (p := ⟨w.heap.size + 1, 2, none⟩) (fun _ => rfl) (.string y.pkg)).setCell (p := ⟨w.heap.size + 1, 3, none⟩) (fun _ => rfl) (.string y.name)).setCell (p := ⟨w.heap.size + 1, 4, none⟩) (fun _ => rfl) (.slice B4 y.args.length d4)).setCell (p := ⟨w.heap.size + 1, 5, none⟩) (fun _ => rfl) (.slice B5 y.res.length d5)))
  have HF := Lib.hid (show Below w.heap.size w ((((((w2.setCell ⟨w.heap.size + 1, 0, none⟩ (.string f.name)).setCell ⟨w.heap.size + 1, 1, none⟩ (.int .i64 y.kind)).setCell ⟨w.heap.size + 1, 2, none⟩ (.string y.pkg)).setCell ⟨w.heap.size + 1, 3, none⟩ (.string y.name)).setCell ⟨w.heap.size + 1, 4, none⟩ (.slice B4 y.args.length d4)).setCell ⟨w.heap.size + 1, 5, none⟩ (.slice B5 y.res.length d5)) from Below.chg HB.out ((HCN.out.mono (S' := fun j => j = w.heap.size + 1) (fun _ _ e => e.elim)).trans HSET.out (fun _ _ e => e)) HB.out.size (fun i hi => by omega))
  have HV3 := Lib.hid ((HV2.out.sub (new_chg HSET.out (g := none) (g' := none) (fun k q _ => .inl (by rw [q]; exact HZS.out)) (fun k q => by cases q))).sub (new_mono HB.out.size none _))
  clear h0_ h1_ h2_ h3_ h4_ h5_ h6_
  refine wpT_one rfl (fun K hK => ?_)
  go_wp2_with fail
  refine hK _ _ ((HCN.out.mono (fun _ _ e => e.elim)).trans HSET.out (fun _ _ e => e)) ?_
  clear hK K
  refine wpT_doneN ?_
  go_wp2_with fail
  have d0_ : ((((((w2.setCell ⟨w.heap.size + 1, 0, none⟩ (.string f.name)).setCell ⟨w.heap.size + 1, 1, none⟩ (.int .i64 y.kind)).setCell ⟨w.heap.size + 1, 2, none⟩ (.string y.pkg)).setCell ⟨w.heap.size + 1, 3, none⟩ (.string y.name)).setCell ⟨w.heap.size + 1, 4, none⟩ (.slice B4 y.args.length d4)).setCell ⟨w.heap.size + 1, 5, none⟩ (.slice B5 y.res.length d5)).cell? ⟨w.heap.size + 1, 0, none⟩ = some (.string f.name) := (cell_at HD.out 0).trans rfl
  have d1_ : ((((((w2.setCell ⟨w.heap.size + 1, 0, none⟩ (.string f.name)).setCell ⟨w.heap.size + 1, 1, none⟩ (.int .i64 y.kind)).setCell ⟨w.heap.size + 1, 2, none⟩ (.string y.pkg)).setCell ⟨w.heap.size + 1, 3, none⟩ (.string y.name)).setCell ⟨w.heap.size + 1, 4, none⟩ (.slice B4 y.args.length d4)).setCell ⟨w.heap.size + 1, 5, none⟩ (.slice B5 y.res.length d5)).cell? ⟨w.heap.size + 1, 1, none⟩ = some (.int .i64 y.kind) := (cell_at HD.out 1).trans rfl
  have d2_ : ((((((w2.setCell ⟨w.heap.size + 1, 0, none⟩ (.string f.name)).setCell ⟨w.heap.size + 1, 1, none⟩ (.int .i64 y.kind)).setCell ⟨w.heap.size + 1, 2, none⟩ (.string y.pkg)).setCell ⟨w.heap.size + 1, 3, none⟩ (.string y.name)).setCell ⟨w.heap.size + 1, 4, none⟩ (.slice B4 y.args.length d4)).setCell ⟨w.heap.size + 1, 5, none⟩ (.slice B5 y.res.length d5)).cell? ⟨w.heap.size + 1, 2, none⟩ = some (.string y.pkg) := (cell_at HD.out 2).trans rfl
  have d3_ : ((((((w2.setCell ⟨w.heap.size + 1, 0, none⟩ (.string f.name)).setCell ⟨w.heap.size + 1, 1, none⟩ (.int .i64 y.kind)).setCell ⟨w.heap.size + 1, 2, none⟩ (.string y.pkg)).setCell ⟨w.heap.size + 1, 3, none⟩ (.string y.name)).setCell ⟨w.heap.size + 1, 4, none⟩ (.slice B4 y.args.length d4)).setCell ⟨w.heap.size + 1, 5, none⟩ (.slice B5 y.res.length d5)).cell? ⟨w.heap.size + 1, 3, none⟩ = some (.string y.name) := (cell_at HD.out 3).trans rfl
  have d4_ : ((((((w2.setCell ⟨w.heap.size + 1, 0, none⟩ (.string f.name)).setCell ⟨w.heap.size + 1, 1, none⟩ (.int .i64 y.kind)).setCell ⟨w.heap.size + 1, 2, none⟩ (.string y.pkg)).setCell ⟨w.heap.size + 1, 3, none⟩ (.string y.name)).setCell ⟨w.heap.size + 1, 4, none⟩ (.slice B4 y.args.length d4)).setCell ⟨w.heap.size + 1, 5, none⟩ (.slice B5 y.res.length d5)).cell? ⟨w.heap.size + 1, 4, none⟩ = some (.slice B4 y.args.length d4) := (cell_at HD.out 4).trans rfl
  have d5_ : ((((((w2.setCell ⟨w.heap.size + 1, 0, none⟩ (.string f.name)).setCell ⟨w.heap.size + 1, 1, none⟩ (.int .i64 y.kind)).setCell ⟨w.heap.size + 1, 2, none⟩ (.string y.pkg)).setCell ⟨w.heap.size + 1, 3, none⟩ (.string y.name)).setCell ⟨w.heap.size + 1, 4, none⟩ (.slice B4 y.args.length d4)).setCell ⟨w.heap.size + 1, 5, none⟩ (.slice B5 y.res.length d5)).cell? ⟨w.heap.size + 1, 5, none⟩ = some (.slice B5 y.res.length d5) := (cell_at HD.out 5).trans rfl
  refine bodyPost_ret (v := .agg #[.string f.name, .int .i64 y.kind, .string y.pkg, .string y.name, .slice B4 y.args.length d4, .slice B5 y.res.length d5]) (by simp [results, Try.results63, go_sem, d0_, d1_, d2_, d3_, d4_, d5_]) rfl ⟨_, rfl, ?_, HF.out⟩
  obtain ⟨_, _, _, _, e, y0, y1, y2, y3, y4⟩ := Ty.opn HV3.out
  simp only [List.cons.injEq, Value.slice.injEq, and_true, true_and] at e
  obtain ⟨⟨rfl, rfl⟩, rfl, rfl⟩ := e
  have hs := Fld.shut (w := NewW w.heap.size none ((((((w2.setCell ⟨w.heap.size + 1, 0, none⟩ (.string f.name)).setCell ⟨w.heap.size + 1, 1, none⟩ (.int .i64 y.kind)).setCell ⟨w.heap.size + 1, 2, none⟩ (.string y.pkg)).setCell ⟨w.heap.size + 1, 3, none⟩ (.string y.name)).setCell ⟨w.heap.size + 1, 4, none⟩ (.slice B4 y.args.length d4)).setCell ⟨w.heap.size + 1, 5, none⟩ (.slice B5 y.res.length d5))) (t := ⟨f.name, y⟩) Q0.out y0 y1 y2 y3 y4
  have e2 := HY.out
  clear HY
  subst e2
  exact hs
def FaceR (v w : World) (us : List Un) (t : Ty) (e : Ending) (w' : World) : Prop := ∃ vs d, e = .returned (.tuple #[.agg vs.toArray, .bool (faceP us t).isSome]) ∧ Vals v d.d vs ∧ (∀ d', faceP us t = some d' → d = d') ∧ Below w.heap.size w w'
set_option maxRecDepth 100000 in
set_option maxHeartbeats 3200000 in
theorem face_any (v w : World) (hvw : Below v.heap.size v w) (us : List Un) (A : Option Addr) (c : Nat) (hl : SL v 4 (Un.ds us) us.length A c) (t : Ty) (vs : List Value) (hv : Vals w t.d vs) : Calls Try.prog 39 #[.slice A us.length c, .agg vs.toArray] w (FaceR v w us t) := by
  obtain ⟨A3, c3, A4, c4, rfl, q0, q1, q2, q3, q4⟩ := Ty.opn hv
  have HB := Lib.hid (show Below w.heap.size w ((w.alloc (.cells #[.int .i64 t.kind, .string t.pkg, .string t.name, .slice A3 t.args.length c3, .slice A4 t.res.length c4] 26)).alloc (.cells #[.int .i64 0, .string ⟨#[]⟩, .string ⟨#[]⟩, .int .i64 0, .int .i64 0, .string ⟨#[]⟩, .string ⟨#[]⟩, .slice none 0 0, .slice none 0 0, .slice none 0 0] 46)) from ((Below.refl w.heap.size w).alloc (Nat.le_refl _) _).alloc (by simp) _)
  have hr := alloc_at (w.alloc (.cells #[.int .i64 t.kind, .string t.pkg, .string t.name, .slice A3 t.args.length c3, .slice A4 t.res.length c4] 26)) (.cells #[.int .i64 0, .string ⟨#[]⟩, .string ⟨#[]⟩, .int .i64 0, .int .i64 0, .string ⟨#[]⟩, .string ⟨#[]⟩, .slice none 0 0, .slice none 0 0, .slice none 0 0] 46)
  rw [World.size_alloc] at hr
  have HR := Lib.hid (show ((w.alloc (.cells #[.int .i64 t.kind, .string t.pkg, .string t.name, .slice A3 t.args.length c3, .slice A4 t.res.length c4] 26)).alloc (.cells #[.int .i64 0, .string ⟨#[]⟩, .string ⟨#[]⟩, .int .i64 0, .int .i64 0, .string ⟨#[]⟩, .string ⟨#[]⟩, .slice none 0 0, .slice none 0 0, .slice none 0 0] 46)).heap[w.heap.size + 1]? = some (.cells #[.int .i64 0, .string ⟨#[]⟩, .string ⟨#[]⟩, .int .i64 0, .int .i64 0, .string ⟨#[]⟩, .string ⟨#[]⟩, .slice none 0 0, .slice none 0 0, .slice none 0 0] 46 (0, 0)) from hr)
  have HFI := Lib.hid (find_any v ((w.alloc (.cells #[.int .i64 t.kind, .string t.pkg, .string t.name, .slice A3 t.args.length c3, .slice A4 t.res.length c4] 26)).alloc (.cells #[.int .i64 0, .string ⟨#[]⟩, .string ⟨#[]⟩, .int .i64 0, .int .i64 0, .string ⟨#[]⟩, .string ⟨#[]⟩, .slice none 0 0, .slice none 0 0, .slice none 0 0] 46)) (hvw.trans (HB.out.mono hvw.size)) us t.pkg t.name A c hl)
  clear hv q0 q1 q2 q3 q4 hr hvw hl
  by_cases hk : t.kind = 8
  case neg =>
    have kb : (t.kind != 8) = true := by simp [hk]
    have HN := Lib.hid (show faceP us t = none by unfold faceP; rw [if_neg hk])
    clear hk
    go_enter Try.func39, Try.ntmps39
    go_wp2_with fail
    have d0_ : ((w.alloc (.cells #[.int .i64 t.kind, .string t.pkg, .string t.name, .slice A3 t.args.length c3, .slice A4 t.res.length c4] 26)).alloc (.cells #[.int .i64 0, .string ⟨#[]⟩, .string ⟨#[]⟩, .int .i64 0, .int .i64 0, .string ⟨#[]⟩, .string ⟨#[]⟩, .slice none 0 0, .slice none 0 0, .slice none 0 0] 46)).cell? ⟨w.heap.size + 1, 0, none⟩ = some (.int .i64 0) := (cell_at HR.out 0).trans rfl
    have d1_ : ((w.alloc (.cells #[.int .i64 t.kind, .string t.pkg, .string t.name, .slice A3 t.args.length c3, .slice A4 t.res.length c4] 26)).alloc (.cells #[.int .i64 0, .string ⟨#[]⟩, .string ⟨#[]⟩, .int .i64 0, .int .i64 0, .string ⟨#[]⟩, .string ⟨#[]⟩, .slice none 0 0, .slice none 0 0, .slice none 0 0] 46)).cell? ⟨w.heap.size + 1, 1, none⟩ = some (.string ⟨#[]⟩) := (cell_at HR.out 1).trans rfl
    have d2_ : ((w.alloc (.cells #[.int .i64 t.kind, .string t.pkg, .string t.name, .slice A3 t.args.length c3, .slice A4 t.res.length c4] 26)).alloc (.cells #[.int .i64 0, .string ⟨#[]⟩, .string ⟨#[]⟩, .int .i64 0, .int .i64 0, .string ⟨#[]⟩, .string ⟨#[]⟩, .slice none 0 0, .slice none 0 0, .slice none 0 0] 46)).cell? ⟨w.heap.size + 1, 2, none⟩ = some (.string ⟨#[]⟩) := (cell_at HR.out 2).trans rfl
    have d3_ : ((w.alloc (.cells #[.int .i64 t.kind, .string t.pkg, .string t.name, .slice A3 t.args.length c3, .slice A4 t.res.length c4] 26)).alloc (.cells #[.int .i64 0, .string ⟨#[]⟩, .string ⟨#[]⟩, .int .i64 0, .int .i64 0, .string ⟨#[]⟩, .string ⟨#[]⟩, .slice none 0 0, .slice none 0 0, .slice none 0 0] 46)).cell? ⟨w.heap.size + 1, 3, none⟩ = some (.int .i64 0) := (cell_at HR.out 3).trans rfl
    have d4_ : ((w.alloc (.cells #[.int .i64 t.kind, .string t.pkg, .string t.name, .slice A3 t.args.length c3, .slice A4 t.res.length c4] 26)).alloc (.cells #[.int .i64 0, .string ⟨#[]⟩, .string ⟨#[]⟩, .int .i64 0, .int .i64 0, .string ⟨#[]⟩, .string ⟨#[]⟩, .slice none 0 0, .slice none 0 0, .slice none 0 0] 46)).cell? ⟨w.heap.size + 1, 4, none⟩ = some (.int .i64 0) := (cell_at HR.out 4).trans rfl
    have d5_ : ((w.alloc (.cells #[.int .i64 t.kind, .string t.pkg, .string t.name, .slice A3 t.args.length c3, .slice A4 t.res.length c4] 26)).alloc (.cells #[.int .i64 0, .string ⟨#[]⟩, .string ⟨#[]⟩, .int .i64 0, .int .i64 0, .string ⟨#[]⟩, .string ⟨#[]⟩, .slice none 0 0, .slice none 0 0, .slice none 0 0] 46)).cell? ⟨w.heap.size + 1, 5, none⟩ = some (.string ⟨#[]⟩) := (cell_at HR.out 5).trans rfl
    have d6_ : ((w.alloc (.cells #[.int .i64 t.kind, .string t.pkg, .string t.name, .slice A3 t.args.length c3, .slice A4 t.res.length c4] 26)).alloc (.cells #[.int .i64 0, .string ⟨#[]⟩, .string ⟨#[]⟩, .int .i64 0, .int .i64 0, .string ⟨#[]⟩, .string ⟨#[]⟩, .slice none 0 0, .slice none 0 0, .slice none 0 0] 46)).cell? ⟨w.heap.size + 1, 6, none⟩ = some (.string ⟨#[]⟩) := (cell_at HR.out 6).trans rfl
    have d7_ : ((w.alloc (.cells #[.int .i64 t.kind, .string t.pkg, .string t.name, .slice A3 t.args.length c3, .slice A4 t.res.length c4] 26)).alloc (.cells #[.int .i64 0, .string ⟨#[]⟩, .string ⟨#[]⟩, .int .i64 0, .int .i64 0, .string ⟨#[]⟩, .string ⟨#[]⟩, .slice none 0 0, .slice none 0 0, .slice none 0 0] 46)).cell? ⟨w.heap.size + 1, 7, none⟩ = some (.slice none 0 0) := (cell_at HR.out 7).trans rfl
    have d8_ : ((w.alloc (.cells #[.int .i64 t.kind, .string t.pkg, .string t.name, .slice A3 t.args.length c3, .slice A4 t.res.length c4] 26)).alloc (.cells #[.int .i64 0, .string ⟨#[]⟩, .string ⟨#[]⟩, .int .i64 0, .int .i64 0, .string ⟨#[]⟩, .string ⟨#[]⟩, .slice none 0 0, .slice none 0 0, .slice none 0 0] 46)).cell? ⟨w.heap.size + 1, 8, none⟩ = some (.slice none 0 0) := (cell_at HR.out 8).trans rfl
    have d9_ : ((w.alloc (.cells #[.int .i64 t.kind, .string t.pkg, .string t.name, .slice A3 t.args.length c3, .slice A4 t.res.length c4] 26)).alloc (.cells #[.int .i64 0, .string ⟨#[]⟩, .string ⟨#[]⟩, .int .i64 0, .int .i64 0, .string ⟨#[]⟩, .string ⟨#[]⟩, .slice none 0 0, .slice none 0 0, .slice none 0 0] 46)).cell? ⟨w.heap.size + 1, 9, none⟩ = some (.slice none 0 0) := (cell_at HR.out 9).trans rfl
    refine bodyPost_ret (v := .tuple #[.agg #[.int .i64 0, .string ⟨#[]⟩, .string ⟨#[]⟩, .int .i64 0, .int .i64 0, .string ⟨#[]⟩, .string ⟨#[]⟩, .slice none 0 0, .slice none 0 0, .slice none 0 0], .bool false]) (by simp [results, Try.results39, go_sem, d0_, d1_, d2_, d3_, d4_, d5_, d6_, d7_, d8_, d9_]) rfl ?_
    exact ⟨_, dcl0, by rw [HN.out]; rfl, dcl0_vals2 v, fun d' h => (by rw [HN.out] at h; cases h), HB.out⟩
  have kb : (t.kind != 8) = false := by simp [hk]
  obtain ⟨r, hr⟩ : ∃ r, r = findP us t.pkg t.name := ⟨_, rfl⟩
  rw [← hr] at HFI
  have HFP := Lib.hid (show faceP us t = r.filter (fun d => decide (d.kind = 4)) by unfold faceP; rw [if_pos hk, hr])
  clear hk hr
  go_enter Try.func39, Try.ntmps39
  go_wp2_with fail
  refine HFI.out.mono ?_
  obtain ⟨d, hd⟩ : ∃ d, d = r.getD dcl0 := ⟨_, rfl⟩
  obtain ⟨q, hq⟩ : ∃ q, q = r.isSome := ⟨_, rfl⟩
  rintro e w1 ⟨vs, he, hv, hb⟩
  rw [← hq] at he
  rw [← hd] at hv
  subst he
  have HV := Lib.hid hv
  have HDE := Lib.hid hd; have HQE := Lib.hid hq
  obtain ⟨A7, c7, A8, c8, A9, c9, rfl, y0, y1, y2, y3, y4, y5, y6, y7, y8, y9⟩ := Dcl.opn hv
  have HB1 := Lib.hid (HB.out.trans (hb.mono HB.out.size))
  have HR1 := Lib.hid ((hb.block _ (lt_of_block HR.out)).trans HR.out)
  clear hv hb hd hq y0 y1 y2 y3 y4 y5 y6 y7 y8 y9
  have hrlt := lt_of_block HR1.out
  go_wp2_with fail
  obtain ⟨wz, hz⟩ : ∃ x, x = w1.alloc (.cells #[.int .i64 d.kind, .string d.name, .string d.of, .int .i64 d.value, .int .i64 d.type.kind, .string d.type.pkg, .string d.type.name, .slice A7 d.type.args.length c7, .slice A8 d.type.res.length c8, .slice A9 d.fields.length c9] 46) := ⟨_, rfl⟩
  have hr2 := alloc_old HR1.out (.cells #[.int .i64 d.kind, .string d.name, .string d.of, .int .i64 d.value, .int .i64 d.type.kind, .string d.type.pkg, .string d.type.name, .slice A7 d.type.args.length c7, .slice A8 d.type.res.length c8, .slice A9 d.fields.length c9] 46)
  have hd2 := alloc_at w1 (.cells #[.int .i64 d.kind, .string d.name, .string d.of, .int .i64 d.value, .int .i64 d.type.kind, .string d.type.pkg, .string d.type.name, .slice A7 d.type.args.length c7, .slice A8 d.type.res.length c8, .slice A9 d.fields.length c9] 46)
  have hb2 := HB1.out.alloc HB1.out.size (.cells #[.int .i64 d.kind, .string d.name, .string d.of, .int .i64 d.value, .int .i64 d.type.kind, .string d.type.pkg, .string d.type.name, .slice A7 d.type.args.length c7, .slice A8 d.type.res.length c8, .slice A9 d.fields.length c9] 46)
  rw [← hz] at hr2 hd2 hb2
  rw [← hz]
  have HR2 := Lib.hid hr2; have HD2 := Lib.hid hd2; have HB2 := Lib.hid hb2
  have HNE := Lib.hid (show ¬ w1.heap.size = w.heap.size + 1 by omega)
  clear hz hr2 hd2 hb2
  cases q with
  | true =>
    by_cases h4 : d.kind = 4
    · have k4 : (d.kind == 4) = true := by simp [h4]
      have HX := Lib.hid (show faceP us t = some d by
        rw [HFP.out]
        have h1 := HDE.out; have h2 := HQE.out
        cases r with
        | none => cases h2
        | some x => simp only [Option.getD_some] at h1; subst h1; simp [h4])
      clear h4
      refine wp_region_otN (fun wS => Chg (fun j => j = w.heap.size + 1) wz wS) (.get 0 (.get 1 (.get 2 (.get 3 (.get 4 (.get 5 (.get 6 (.one 7 (.get 8 .done))))))))) (by kernel_rfl) (by kernel_rfl) (Chg.refl _ _).drew ?_
      apply wpT_get rfl
      · go_simp
      · intro wS hS
        have x0 := (cell_at (hS.heap HD2.out HNE.out) 0).trans rfl
        have x1 := (cell_at (hS.heap HD2.out HNE.out) 1).trans rfl
        have x2 := (cell_at (hS.heap HD2.out HNE.out) 2).trans rfl
        have x3 := (cell_at (hS.heap HD2.out HNE.out) 3).trans rfl
        have x4 := (cell_at (hS.heap HD2.out HNE.out) 4).trans rfl
        have x5 := (cell_at (hS.heap HD2.out HNE.out) 5).trans rfl
        have x6 := (cell_at (hS.heap HD2.out HNE.out) 6).trans rfl
        have x7 := (cell_at (hS.heap HD2.out HNE.out) 7).trans rfl
        have x8 := (cell_at (hS.heap HD2.out HNE.out) 8).trans rfl
        have x9 := (cell_at (hS.heap HD2.out HNE.out) 9).trans rfl
        go_simp
        try rfl
      intro K hK
      go_simp
      refine hK _ ?_
      clear hK K
      apply wpT_get rfl
      · go_simp
      · intro wS hS
        go_simp
        try rfl
      intro K hK
      go_simp
      refine hK _ ?_
      clear hK K
      apply wpT_get rfl
      · go_simp
      · intro wS hS
        go_simp
        try rfl
      intro K hK
      go_simp
      refine hK _ ?_
      clear hK K
      apply wpT_get rfl
      · go_simp
      · intro wS hS
        go_simp
        try rfl
      intro K hK
      go_simp
      refine hK _ ?_
      clear hK K
      apply wpT_get rfl
      · go_simp
      · intro wS hS
        have x0 := (cell_at (hS.heap HD2.out HNE.out) 0).trans rfl
        go_simp
        try rfl
      intro K hK
      go_simp
      refine hK _ ?_
      clear hK K
      apply wpT_get rfl
      · go_simp
      · intro wS hS
        go_simp
        try rfl
      intro K hK
      go_simp
      refine hK _ ?_
      clear hK K
      apply wpT_get rfl
      · go_simp
      · intro wS hS
        go_simp
        try rfl
      intro K hK
      go_simp
      refine hK _ ?_
      clear hK K
      have r0_ : wz.cell? ⟨w.heap.size + 1, 0, none⟩ = some (.int .i64 0) := (cell_at HR2.out 0).trans rfl
      have s0_ : wz.frozen? ⟨w.heap.size + 1, 0, none⟩ = false := free_at HR2.out 0
      have r1_ : wz.cell? ⟨w.heap.size + 1, 1, none⟩ = some (.string ⟨#[]⟩) := (cell_at HR2.out 1).trans rfl
      have s1_ : wz.frozen? ⟨w.heap.size + 1, 1, none⟩ = false := free_at HR2.out 1
      have r2_ : wz.cell? ⟨w.heap.size + 1, 2, none⟩ = some (.string ⟨#[]⟩) := (cell_at HR2.out 2).trans rfl
      have s2_ : wz.frozen? ⟨w.heap.size + 1, 2, none⟩ = false := free_at HR2.out 2
      have r3_ : wz.cell? ⟨w.heap.size + 1, 3, none⟩ = some (.int .i64 0) := (cell_at HR2.out 3).trans rfl
      have s3_ : wz.frozen? ⟨w.heap.size + 1, 3, none⟩ = false := free_at HR2.out 3
      have r4_ : wz.cell? ⟨w.heap.size + 1, 4, none⟩ = some (.int .i64 0) := (cell_at HR2.out 4).trans rfl
      have s4_ : wz.frozen? ⟨w.heap.size + 1, 4, none⟩ = false := free_at HR2.out 4
      have r5_ : wz.cell? ⟨w.heap.size + 1, 5, none⟩ = some (.string ⟨#[]⟩) := (cell_at HR2.out 5).trans rfl
      have s5_ : wz.frozen? ⟨w.heap.size + 1, 5, none⟩ = false := free_at HR2.out 5
      have r6_ : wz.cell? ⟨w.heap.size + 1, 6, none⟩ = some (.string ⟨#[]⟩) := (cell_at HR2.out 6).trans rfl
      have s6_ : wz.frozen? ⟨w.heap.size + 1, 6, none⟩ = false := free_at HR2.out 6
      have r7_ : wz.cell? ⟨w.heap.size + 1, 7, none⟩ = some (.slice none 0 0) := (cell_at HR2.out 7).trans rfl
      have s7_ : wz.frozen? ⟨w.heap.size + 1, 7, none⟩ = false := free_at HR2.out 7
      have r8_ : wz.cell? ⟨w.heap.size + 1, 8, none⟩ = some (.slice none 0 0) := (cell_at HR2.out 8).trans rfl
      have s8_ : wz.frozen? ⟨w.heap.size + 1, 8, none⟩ = false := free_at HR2.out 8
      have r9_ : wz.cell? ⟨w.heap.size + 1, 9, none⟩ = some (.slice none 0 0) := (cell_at HR2.out 9).trans rfl
      have s9_ : wz.frozen? ⟨w.heap.size + 1, 9, none⟩ = false := free_at HR2.out 9
      have h0_ := HR2.out
      have h1_ : (wz.setCell ⟨w.heap.size + 1, 0, none⟩ (.int .i64 d.kind)).heap[w.heap.size + 1]? = some (.cells #[.int .i64 d.kind, .string ⟨#[]⟩, .string ⟨#[]⟩, .int .i64 0, .int .i64 0, .string ⟨#[]⟩, .string ⟨#[]⟩, .slice none 0 0, .slice none 0 0, .slice none 0 0] 46 (0, 0)) := set_at h0_ 0 (.int .i64 d.kind)
      have h2_ : ((wz.setCell ⟨w.heap.size + 1, 0, none⟩ (.int .i64 d.kind)).setCell ⟨w.heap.size + 1, 1, none⟩ (.string d.name)).heap[w.heap.size + 1]? = some (.cells #[.int .i64 d.kind, .string d.name, .string ⟨#[]⟩, .int .i64 0, .int .i64 0, .string ⟨#[]⟩, .string ⟨#[]⟩, .slice none 0 0, .slice none 0 0, .slice none 0 0] 46 (0, 0)) := set_at h1_ 1 (.string d.name)
      have h3_ : (((wz.setCell ⟨w.heap.size + 1, 0, none⟩ (.int .i64 d.kind)).setCell ⟨w.heap.size + 1, 1, none⟩ (.string d.name)).setCell ⟨w.heap.size + 1, 2, none⟩ (.string d.of)).heap[w.heap.size + 1]? = some (.cells #[.int .i64 d.kind, .string d.name, .string d.of, .int .i64 0, .int .i64 0, .string ⟨#[]⟩, .string ⟨#[]⟩, .slice none 0 0, .slice none 0 0, .slice none 0 0] 46 (0, 0)) := set_at h2_ 2 (.string d.of)
      have h4_ : ((((wz.setCell ⟨w.heap.size + 1, 0, none⟩ (.int .i64 d.kind)).setCell ⟨w.heap.size + 1, 1, none⟩ (.string d.name)).setCell ⟨w.heap.size + 1, 2, none⟩ (.string d.of)).setCell ⟨w.heap.size + 1, 3, none⟩ (.int .i64 d.value)).heap[w.heap.size + 1]? = some (.cells #[.int .i64 d.kind, .string d.name, .string d.of, .int .i64 d.value, .int .i64 0, .string ⟨#[]⟩, .string ⟨#[]⟩, .slice none 0 0, .slice none 0 0, .slice none 0 0] 46 (0, 0)) := set_at h3_ 3 (.int .i64 d.value)
      have h5_ : (((((wz.setCell ⟨w.heap.size + 1, 0, none⟩ (.int .i64 d.kind)).setCell ⟨w.heap.size + 1, 1, none⟩ (.string d.name)).setCell ⟨w.heap.size + 1, 2, none⟩ (.string d.of)).setCell ⟨w.heap.size + 1, 3, none⟩ (.int .i64 d.value)).setCell ⟨w.heap.size + 1, 4, none⟩ (.int .i64 d.type.kind)).heap[w.heap.size + 1]? = some (.cells #[.int .i64 d.kind, .string d.name, .string d.of, .int .i64 d.value, .int .i64 d.type.kind, .string ⟨#[]⟩, .string ⟨#[]⟩, .slice none 0 0, .slice none 0 0, .slice none 0 0] 46 (0, 0)) := set_at h4_ 4 (.int .i64 d.type.kind)
      have h6_ : ((((((wz.setCell ⟨w.heap.size + 1, 0, none⟩ (.int .i64 d.kind)).setCell ⟨w.heap.size + 1, 1, none⟩ (.string d.name)).setCell ⟨w.heap.size + 1, 2, none⟩ (.string d.of)).setCell ⟨w.heap.size + 1, 3, none⟩ (.int .i64 d.value)).setCell ⟨w.heap.size + 1, 4, none⟩ (.int .i64 d.type.kind)).setCell ⟨w.heap.size + 1, 5, none⟩ (.string d.type.pkg)).heap[w.heap.size + 1]? = some (.cells #[.int .i64 d.kind, .string d.name, .string d.of, .int .i64 d.value, .int .i64 d.type.kind, .string d.type.pkg, .string ⟨#[]⟩, .slice none 0 0, .slice none 0 0, .slice none 0 0] 46 (0, 0)) := set_at h5_ 5 (.string d.type.pkg)
      have h7_ : (((((((wz.setCell ⟨w.heap.size + 1, 0, none⟩ (.int .i64 d.kind)).setCell ⟨w.heap.size + 1, 1, none⟩ (.string d.name)).setCell ⟨w.heap.size + 1, 2, none⟩ (.string d.of)).setCell ⟨w.heap.size + 1, 3, none⟩ (.int .i64 d.value)).setCell ⟨w.heap.size + 1, 4, none⟩ (.int .i64 d.type.kind)).setCell ⟨w.heap.size + 1, 5, none⟩ (.string d.type.pkg)).setCell ⟨w.heap.size + 1, 6, none⟩ (.string d.type.name)).heap[w.heap.size + 1]? = some (.cells #[.int .i64 d.kind, .string d.name, .string d.of, .int .i64 d.value, .int .i64 d.type.kind, .string d.type.pkg, .string d.type.name, .slice none 0 0, .slice none 0 0, .slice none 0 0] 46 (0, 0)) := set_at h6_ 6 (.string d.type.name)
      have h8_ : ((((((((wz.setCell ⟨w.heap.size + 1, 0, none⟩ (.int .i64 d.kind)).setCell ⟨w.heap.size + 1, 1, none⟩ (.string d.name)).setCell ⟨w.heap.size + 1, 2, none⟩ (.string d.of)).setCell ⟨w.heap.size + 1, 3, none⟩ (.int .i64 d.value)).setCell ⟨w.heap.size + 1, 4, none⟩ (.int .i64 d.type.kind)).setCell ⟨w.heap.size + 1, 5, none⟩ (.string d.type.pkg)).setCell ⟨w.heap.size + 1, 6, none⟩ (.string d.type.name)).setCell ⟨w.heap.size + 1, 7, none⟩ (.slice A7 d.type.args.length c7)).heap[w.heap.size + 1]? = some (.cells #[.int .i64 d.kind, .string d.name, .string d.of, .int .i64 d.value, .int .i64 d.type.kind, .string d.type.pkg, .string d.type.name, .slice A7 d.type.args.length c7, .slice none 0 0, .slice none 0 0] 46 (0, 0)) := set_at h7_ 7 (.slice A7 d.type.args.length c7)
      have h9_ : (((((((((wz.setCell ⟨w.heap.size + 1, 0, none⟩ (.int .i64 d.kind)).setCell ⟨w.heap.size + 1, 1, none⟩ (.string d.name)).setCell ⟨w.heap.size + 1, 2, none⟩ (.string d.of)).setCell ⟨w.heap.size + 1, 3, none⟩ (.int .i64 d.value)).setCell ⟨w.heap.size + 1, 4, none⟩ (.int .i64 d.type.kind)).setCell ⟨w.heap.size + 1, 5, none⟩ (.string d.type.pkg)).setCell ⟨w.heap.size + 1, 6, none⟩ (.string d.type.name)).setCell ⟨w.heap.size + 1, 7, none⟩ (.slice A7 d.type.args.length c7)).setCell ⟨w.heap.size + 1, 8, none⟩ (.slice A8 d.type.res.length c8)).heap[w.heap.size + 1]? = some (.cells #[.int .i64 d.kind, .string d.name, .string d.of, .int .i64 d.value, .int .i64 d.type.kind, .string d.type.pkg, .string d.type.name, .slice A7 d.type.args.length c7, .slice A8 d.type.res.length c8, .slice none 0 0] 46 (0, 0)) := set_at h8_ 8 (.slice A8 d.type.res.length c8)
      have h10_ : ((((((((((wz.setCell ⟨w.heap.size + 1, 0, none⟩ (.int .i64 d.kind)).setCell ⟨w.heap.size + 1, 1, none⟩ (.string d.name)).setCell ⟨w.heap.size + 1, 2, none⟩ (.string d.of)).setCell ⟨w.heap.size + 1, 3, none⟩ (.int .i64 d.value)).setCell ⟨w.heap.size + 1, 4, none⟩ (.int .i64 d.type.kind)).setCell ⟨w.heap.size + 1, 5, none⟩ (.string d.type.pkg)).setCell ⟨w.heap.size + 1, 6, none⟩ (.string d.type.name)).setCell ⟨w.heap.size + 1, 7, none⟩ (.slice A7 d.type.args.length c7)).setCell ⟨w.heap.size + 1, 8, none⟩ (.slice A8 d.type.res.length c8)).setCell ⟨w.heap.size + 1, 9, none⟩ (.slice A9 d.fields.length c9)).heap[w.heap.size + 1]? = some (.cells #[.int .i64 d.kind, .string d.name, .string d.of, .int .i64 d.value, .int .i64 d.type.kind, .string d.type.pkg, .string d.type.name, .slice A7 d.type.args.length c7, .slice A8 d.type.res.length c8, .slice A9 d.fields.length c9] 46 (0, 0)) := set_at h9_ 9 (.slice A9 d.fields.length c9)
      have HD := Lib.hid (drew_at h10_)
      have HSET := Lib.hid (show Chg (fun j => j = w.heap.size + 1) wz ((((((((((wz.setCell ⟨w.heap.size + 1, 0, none⟩ (.int .i64 d.kind)).setCell ⟨w.heap.size + 1, 1, none⟩ (.string d.name)).setCell ⟨w.heap.size + 1, 2, none⟩ (.string d.of)).setCell ⟨w.heap.size + 1, 3, none⟩ (.int .i64 d.value)).setCell ⟨w.heap.size + 1, 4, none⟩ (.int .i64 d.type.kind)).setCell ⟨w.heap.size + 1, 5, none⟩ (.string d.type.pkg)).setCell ⟨w.heap.size + 1, 6, none⟩ (.string d.type.name)).setCell ⟨w.heap.size + 1, 7, none⟩ (.slice A7 d.type.args.length c7)).setCell ⟨w.heap.size + 1, 8, none⟩ (.slice A8 d.type.res.length c8)).setCell ⟨w.heap.size + 1, 9, none⟩ (.slice A9 d.fields.length c9)) from (((((((((((Chg.refl (fun j => j = w.heap.size + 1) wz).setCell (p := ⟨w.heap.size + 1, 0, none⟩) (fun _ => rfl) (.int .i64 d.kind)).setCell (p := ⟨w.heap.size + 1, 1, none⟩) (fun _ => rfl) (.string d.name)).setCell (p := ⟨w.heap.size + 1, 2, none⟩) (fun _ => rfl) (.string d.of)).setCell (p := ⟨w.heap.size + 1, 3, none⟩) (fun _ => rfl) (.int .i64 d.value)).setCell (p := ⟨w.heap.size + 1, 4, none⟩) (fun _ => rfl) (.int .i64 d.type.kind)).setCell (p := ⟨w.heap.size + 1, 5, none⟩) (fun _ => rfl) (.string d.type.pkg)).setCell (p := ⟨w.heap.size + 1, 6, none⟩) (fun _ => rfl) (.string d.type.name)).setCell (p := ⟨w.heap.size + 1, 7, none⟩) (fun _ => rfl) (.slice A7 d.type.args.length c7)).setCell (p := ⟨w.heap.size + 1, 8, none⟩) (fun _ => rfl) (.slice A8 d.type.res.length c8)).setCell (p := ⟨w.heap.size + 1, 9, none⟩) (fun _ => rfl) (.slice A9 d.fields.length c9)))
      have HF := Lib.hid (show Below w.heap.size w ((((((((((wz.setCell ⟨w.heap.size + 1, 0, none⟩ (.int .i64 d.kind)).setCell ⟨w.heap.size + 1, 1, none⟩ (.string d.name)).setCell ⟨w.heap.size + 1, 2, none⟩ (.string d.of)).setCell ⟨w.heap.size + 1, 3, none⟩ (.int .i64 d.value)).setCell ⟨w.heap.size + 1, 4, none⟩ (.int .i64 d.type.kind)).setCell ⟨w.heap.size + 1, 5, none⟩ (.string d.type.pkg)).setCell ⟨w.heap.size + 1, 6, none⟩ (.string d.type.name)).setCell ⟨w.heap.size + 1, 7, none⟩ (.slice A7 d.type.args.length c7)).setCell ⟨w.heap.size + 1, 8, none⟩ (.slice A8 d.type.res.length c8)).setCell ⟨w.heap.size + 1, 9, none⟩ (.slice A9 d.fields.length c9)).drew from Below.chg HB2.out HSET.out.drew HB2.out.size (fun i hi => by omega))
      clear h0_ h1_ h2_ h3_ h4_ h5_ h6_ h7_ h8_ h9_ h10_
      refine wpT_one rfl (fun K hK => ?_)
      go_wp2_with fail
      refine hK _ _ HSET.out.drew ?_
      clear hK K
      apply wpT_get rfl
      · go_simp
      · intro wS hS
        go_simp
        try rfl
      intro K hK
      go_simp
      refine hK _ ?_
      clear hK K
      refine wpT_doneN ?_
      go_wp2_with fail
      have d0_ : ((((((((((wz.setCell ⟨w.heap.size + 1, 0, none⟩ (.int .i64 d.kind)).setCell ⟨w.heap.size + 1, 1, none⟩ (.string d.name)).setCell ⟨w.heap.size + 1, 2, none⟩ (.string d.of)).setCell ⟨w.heap.size + 1, 3, none⟩ (.int .i64 d.value)).setCell ⟨w.heap.size + 1, 4, none⟩ (.int .i64 d.type.kind)).setCell ⟨w.heap.size + 1, 5, none⟩ (.string d.type.pkg)).setCell ⟨w.heap.size + 1, 6, none⟩ (.string d.type.name)).setCell ⟨w.heap.size + 1, 7, none⟩ (.slice A7 d.type.args.length c7)).setCell ⟨w.heap.size + 1, 8, none⟩ (.slice A8 d.type.res.length c8)).setCell ⟨w.heap.size + 1, 9, none⟩ (.slice A9 d.fields.length c9)).drew.cell? ⟨w.heap.size + 1, 0, none⟩ = some (.int .i64 d.kind) := (cell_at HD.out 0).trans rfl
      have d1_ : ((((((((((wz.setCell ⟨w.heap.size + 1, 0, none⟩ (.int .i64 d.kind)).setCell ⟨w.heap.size + 1, 1, none⟩ (.string d.name)).setCell ⟨w.heap.size + 1, 2, none⟩ (.string d.of)).setCell ⟨w.heap.size + 1, 3, none⟩ (.int .i64 d.value)).setCell ⟨w.heap.size + 1, 4, none⟩ (.int .i64 d.type.kind)).setCell ⟨w.heap.size + 1, 5, none⟩ (.string d.type.pkg)).setCell ⟨w.heap.size + 1, 6, none⟩ (.string d.type.name)).setCell ⟨w.heap.size + 1, 7, none⟩ (.slice A7 d.type.args.length c7)).setCell ⟨w.heap.size + 1, 8, none⟩ (.slice A8 d.type.res.length c8)).setCell ⟨w.heap.size + 1, 9, none⟩ (.slice A9 d.fields.length c9)).drew.cell? ⟨w.heap.size + 1, 1, none⟩ = some (.string d.name) := (cell_at HD.out 1).trans rfl
      have d2_ : ((((((((((wz.setCell ⟨w.heap.size + 1, 0, none⟩ (.int .i64 d.kind)).setCell ⟨w.heap.size + 1, 1, none⟩ (.string d.name)).setCell ⟨w.heap.size + 1, 2, none⟩ (.string d.of)).setCell ⟨w.heap.size + 1, 3, none⟩ (.int .i64 d.value)).setCell ⟨w.heap.size + 1, 4, none⟩ (.int .i64 d.type.kind)).setCell ⟨w.heap.size + 1, 5, none⟩ (.string d.type.pkg)).setCell ⟨w.heap.size + 1, 6, none⟩ (.string d.type.name)).setCell ⟨w.heap.size + 1, 7, none⟩ (.slice A7 d.type.args.length c7)).setCell ⟨w.heap.size + 1, 8, none⟩ (.slice A8 d.type.res.length c8)).setCell ⟨w.heap.size + 1, 9, none⟩ (.slice A9 d.fields.length c9)).drew.cell? ⟨w.heap.size + 1, 2, none⟩ = some (.string d.of) := (cell_at HD.out 2).trans rfl
      have d3_ : ((((((((((wz.setCell ⟨w.heap.size + 1, 0, none⟩ (.int .i64 d.kind)).setCell ⟨w.heap.size + 1, 1, none⟩ (.string d.name)).setCell ⟨w.heap.size + 1, 2, none⟩ (.string d.of)).setCell ⟨w.heap.size + 1, 3, none⟩ (.int .i64 d.value)).setCell ⟨w.heap.size + 1, 4, none⟩ (.int .i64 d.type.kind)).setCell ⟨w.heap.size + 1, 5, none⟩ (.string d.type.pkg)).setCell ⟨w.heap.size + 1, 6, none⟩ (.string d.type.name)).setCell ⟨w.heap.size + 1, 7, none⟩ (.slice A7 d.type.args.length c7)).setCell ⟨w.heap.size + 1, 8, none⟩ (.slice A8 d.type.res.length c8)).setCell ⟨w.heap.size + 1, 9, none⟩ (.slice A9 d.fields.length c9)).drew.cell? ⟨w.heap.size + 1, 3, none⟩ = some (.int .i64 d.value) := (cell_at HD.out 3).trans rfl
      have d4_ : ((((((((((wz.setCell ⟨w.heap.size + 1, 0, none⟩ (.int .i64 d.kind)).setCell ⟨w.heap.size + 1, 1, none⟩ (.string d.name)).setCell ⟨w.heap.size + 1, 2, none⟩ (.string d.of)).setCell ⟨w.heap.size + 1, 3, none⟩ (.int .i64 d.value)).setCell ⟨w.heap.size + 1, 4, none⟩ (.int .i64 d.type.kind)).setCell ⟨w.heap.size + 1, 5, none⟩ (.string d.type.pkg)).setCell ⟨w.heap.size + 1, 6, none⟩ (.string d.type.name)).setCell ⟨w.heap.size + 1, 7, none⟩ (.slice A7 d.type.args.length c7)).setCell ⟨w.heap.size + 1, 8, none⟩ (.slice A8 d.type.res.length c8)).setCell ⟨w.heap.size + 1, 9, none⟩ (.slice A9 d.fields.length c9)).drew.cell? ⟨w.heap.size + 1, 4, none⟩ = some (.int .i64 d.type.kind) := (cell_at HD.out 4).trans rfl
      have d5_ : ((((((((((wz.setCell ⟨w.heap.size + 1, 0, none⟩ (.int .i64 d.kind)).setCell ⟨w.heap.size + 1, 1, none⟩ (.string d.name)).setCell ⟨w.heap.size + 1, 2, none⟩ (.string d.of)).setCell ⟨w.heap.size + 1, 3, none⟩ (.int .i64 d.value)).setCell ⟨w.heap.size + 1, 4, none⟩ (.int .i64 d.type.kind)).setCell ⟨w.heap.size + 1, 5, none⟩ (.string d.type.pkg)).setCell ⟨w.heap.size + 1, 6, none⟩ (.string d.type.name)).setCell ⟨w.heap.size + 1, 7, none⟩ (.slice A7 d.type.args.length c7)).setCell ⟨w.heap.size + 1, 8, none⟩ (.slice A8 d.type.res.length c8)).setCell ⟨w.heap.size + 1, 9, none⟩ (.slice A9 d.fields.length c9)).drew.cell? ⟨w.heap.size + 1, 5, none⟩ = some (.string d.type.pkg) := (cell_at HD.out 5).trans rfl
      have d6_ : ((((((((((wz.setCell ⟨w.heap.size + 1, 0, none⟩ (.int .i64 d.kind)).setCell ⟨w.heap.size + 1, 1, none⟩ (.string d.name)).setCell ⟨w.heap.size + 1, 2, none⟩ (.string d.of)).setCell ⟨w.heap.size + 1, 3, none⟩ (.int .i64 d.value)).setCell ⟨w.heap.size + 1, 4, none⟩ (.int .i64 d.type.kind)).setCell ⟨w.heap.size + 1, 5, none⟩ (.string d.type.pkg)).setCell ⟨w.heap.size + 1, 6, none⟩ (.string d.type.name)).setCell ⟨w.heap.size + 1, 7, none⟩ (.slice A7 d.type.args.length c7)).setCell ⟨w.heap.size + 1, 8, none⟩ (.slice A8 d.type.res.length c8)).setCell ⟨w.heap.size + 1, 9, none⟩ (.slice A9 d.fields.length c9)).drew.cell? ⟨w.heap.size + 1, 6, none⟩ = some (.string d.type.name) := (cell_at HD.out 6).trans rfl
      have d7_ : ((((((((((wz.setCell ⟨w.heap.size + 1, 0, none⟩ (.int .i64 d.kind)).setCell ⟨w.heap.size + 1, 1, none⟩ (.string d.name)).setCell ⟨w.heap.size + 1, 2, none⟩ (.string d.of)).setCell ⟨w.heap.size + 1, 3, none⟩ (.int .i64 d.value)).setCell ⟨w.heap.size + 1, 4, none⟩ (.int .i64 d.type.kind)).setCell ⟨w.heap.size + 1, 5, none⟩ (.string d.type.pkg)).setCell ⟨w.heap.size + 1, 6, none⟩ (.string d.type.name)).setCell ⟨w.heap.size + 1, 7, none⟩ (.slice A7 d.type.args.length c7)).setCell ⟨w.heap.size + 1, 8, none⟩ (.slice A8 d.type.res.length c8)).setCell ⟨w.heap.size + 1, 9, none⟩ (.slice A9 d.fields.length c9)).drew.cell? ⟨w.heap.size + 1, 7, none⟩ = some (.slice A7 d.type.args.length c7) := (cell_at HD.out 7).trans rfl
      have d8_ : ((((((((((wz.setCell ⟨w.heap.size + 1, 0, none⟩ (.int .i64 d.kind)).setCell ⟨w.heap.size + 1, 1, none⟩ (.string d.name)).setCell ⟨w.heap.size + 1, 2, none⟩ (.string d.of)).setCell ⟨w.heap.size + 1, 3, none⟩ (.int .i64 d.value)).setCell ⟨w.heap.size + 1, 4, none⟩ (.int .i64 d.type.kind)).setCell ⟨w.heap.size + 1, 5, none⟩ (.string d.type.pkg)).setCell ⟨w.heap.size + 1, 6, none⟩ (.string d.type.name)).setCell ⟨w.heap.size + 1, 7, none⟩ (.slice A7 d.type.args.length c7)).setCell ⟨w.heap.size + 1, 8, none⟩ (.slice A8 d.type.res.length c8)).setCell ⟨w.heap.size + 1, 9, none⟩ (.slice A9 d.fields.length c9)).drew.cell? ⟨w.heap.size + 1, 8, none⟩ = some (.slice A8 d.type.res.length c8) := (cell_at HD.out 8).trans rfl
      have d9_ : ((((((((((wz.setCell ⟨w.heap.size + 1, 0, none⟩ (.int .i64 d.kind)).setCell ⟨w.heap.size + 1, 1, none⟩ (.string d.name)).setCell ⟨w.heap.size + 1, 2, none⟩ (.string d.of)).setCell ⟨w.heap.size + 1, 3, none⟩ (.int .i64 d.value)).setCell ⟨w.heap.size + 1, 4, none⟩ (.int .i64 d.type.kind)).setCell ⟨w.heap.size + 1, 5, none⟩ (.string d.type.pkg)).setCell ⟨w.heap.size + 1, 6, none⟩ (.string d.type.name)).setCell ⟨w.heap.size + 1, 7, none⟩ (.slice A7 d.type.args.length c7)).setCell ⟨w.heap.size + 1, 8, none⟩ (.slice A8 d.type.res.length c8)).setCell ⟨w.heap.size + 1, 9, none⟩ (.slice A9 d.fields.length c9)).drew.cell? ⟨w.heap.size + 1, 9, none⟩ = some (.slice A9 d.fields.length c9) := (cell_at HD.out 9).trans rfl
      refine bodyPost_ret (v := .tuple #[.agg #[.int .i64 d.kind, .string d.name, .string d.of, .int .i64 d.value, .int .i64 d.type.kind, .string d.type.pkg, .string d.type.name, .slice A7 d.type.args.length c7, .slice A8 d.type.res.length c8, .slice A9 d.fields.length c9], .bool true]) (by simp [results, Try.results39, go_sem, d0_, d1_, d2_, d3_, d4_, d5_, d6_, d7_, d8_, d9_]) rfl ?_
      exact ⟨_, d, by rw [HX.out]; rfl, HV.out, fun d' h => (by rw [HX.out] at h; cases h; try rfl), HF.out⟩
    · have k4 : (d.kind == 4) = false := by simp [h4]
      have HX := Lib.hid (show faceP us t = none by
        rw [HFP.out]
        have h1 := HDE.out; have h2 := HQE.out
        cases r with
        | none => cases h2
        | some x => simp only [Option.getD_some] at h1; subst h1; simp [h4])
      clear h4
      refine wp_region_otN (fun wS => Chg (fun j => j = w.heap.size + 1) wz wS) (.get 0 (.get 1 (.get 2 (.get 3 (.get 4 (.get 5 (.get 6 (.one 7 (.get 8 .done))))))))) (by kernel_rfl) (by kernel_rfl) (Chg.refl _ _).drew ?_
      apply wpT_get rfl
      · go_simp
      · intro wS hS
        have x0 := (cell_at (hS.heap HD2.out HNE.out) 0).trans rfl
        have x1 := (cell_at (hS.heap HD2.out HNE.out) 1).trans rfl
        have x2 := (cell_at (hS.heap HD2.out HNE.out) 2).trans rfl
        have x3 := (cell_at (hS.heap HD2.out HNE.out) 3).trans rfl
        have x4 := (cell_at (hS.heap HD2.out HNE.out) 4).trans rfl
        have x5 := (cell_at (hS.heap HD2.out HNE.out) 5).trans rfl
        have x6 := (cell_at (hS.heap HD2.out HNE.out) 6).trans rfl
        have x7 := (cell_at (hS.heap HD2.out HNE.out) 7).trans rfl
        have x8 := (cell_at (hS.heap HD2.out HNE.out) 8).trans rfl
        have x9 := (cell_at (hS.heap HD2.out HNE.out) 9).trans rfl
        go_simp
        try rfl
      intro K hK
      go_simp
      refine hK _ ?_
      clear hK K
      apply wpT_get rfl
      · go_simp
      · intro wS hS
        go_simp
        try rfl
      intro K hK
      go_simp
      refine hK _ ?_
      clear hK K
      apply wpT_get rfl
      · go_simp
      · intro wS hS
        go_simp
        try rfl
      intro K hK
      go_simp
      refine hK _ ?_
      clear hK K
      apply wpT_get rfl
      · go_simp
      · intro wS hS
        go_simp
        try rfl
      intro K hK
      go_simp
      refine hK _ ?_
      clear hK K
      apply wpT_get rfl
      · go_simp
      · intro wS hS
        have x0 := (cell_at (hS.heap HD2.out HNE.out) 0).trans rfl
        go_simp
        try rfl
      intro K hK
      go_simp
      refine hK _ ?_
      clear hK K
      apply wpT_get rfl
      · go_simp
      · intro wS hS
        go_simp
        try rfl
      intro K hK
      go_simp
      refine hK _ ?_
      clear hK K
      apply wpT_get rfl
      · go_simp
      · intro wS hS
        go_simp
        try rfl
      intro K hK
      go_simp
      refine hK _ ?_
      clear hK K
      have r0_ : wz.cell? ⟨w.heap.size + 1, 0, none⟩ = some (.int .i64 0) := (cell_at HR2.out 0).trans rfl
      have s0_ : wz.frozen? ⟨w.heap.size + 1, 0, none⟩ = false := free_at HR2.out 0
      have r1_ : wz.cell? ⟨w.heap.size + 1, 1, none⟩ = some (.string ⟨#[]⟩) := (cell_at HR2.out 1).trans rfl
      have s1_ : wz.frozen? ⟨w.heap.size + 1, 1, none⟩ = false := free_at HR2.out 1
      have r2_ : wz.cell? ⟨w.heap.size + 1, 2, none⟩ = some (.string ⟨#[]⟩) := (cell_at HR2.out 2).trans rfl
      have s2_ : wz.frozen? ⟨w.heap.size + 1, 2, none⟩ = false := free_at HR2.out 2
      have r3_ : wz.cell? ⟨w.heap.size + 1, 3, none⟩ = some (.int .i64 0) := (cell_at HR2.out 3).trans rfl
      have s3_ : wz.frozen? ⟨w.heap.size + 1, 3, none⟩ = false := free_at HR2.out 3
      have r4_ : wz.cell? ⟨w.heap.size + 1, 4, none⟩ = some (.int .i64 0) := (cell_at HR2.out 4).trans rfl
      have s4_ : wz.frozen? ⟨w.heap.size + 1, 4, none⟩ = false := free_at HR2.out 4
      have r5_ : wz.cell? ⟨w.heap.size + 1, 5, none⟩ = some (.string ⟨#[]⟩) := (cell_at HR2.out 5).trans rfl
      have s5_ : wz.frozen? ⟨w.heap.size + 1, 5, none⟩ = false := free_at HR2.out 5
      have r6_ : wz.cell? ⟨w.heap.size + 1, 6, none⟩ = some (.string ⟨#[]⟩) := (cell_at HR2.out 6).trans rfl
      have s6_ : wz.frozen? ⟨w.heap.size + 1, 6, none⟩ = false := free_at HR2.out 6
      have r7_ : wz.cell? ⟨w.heap.size + 1, 7, none⟩ = some (.slice none 0 0) := (cell_at HR2.out 7).trans rfl
      have s7_ : wz.frozen? ⟨w.heap.size + 1, 7, none⟩ = false := free_at HR2.out 7
      have r8_ : wz.cell? ⟨w.heap.size + 1, 8, none⟩ = some (.slice none 0 0) := (cell_at HR2.out 8).trans rfl
      have s8_ : wz.frozen? ⟨w.heap.size + 1, 8, none⟩ = false := free_at HR2.out 8
      have r9_ : wz.cell? ⟨w.heap.size + 1, 9, none⟩ = some (.slice none 0 0) := (cell_at HR2.out 9).trans rfl
      have s9_ : wz.frozen? ⟨w.heap.size + 1, 9, none⟩ = false := free_at HR2.out 9
      have h0_ := HR2.out
      have h1_ : (wz.setCell ⟨w.heap.size + 1, 0, none⟩ (.int .i64 d.kind)).heap[w.heap.size + 1]? = some (.cells #[.int .i64 d.kind, .string ⟨#[]⟩, .string ⟨#[]⟩, .int .i64 0, .int .i64 0, .string ⟨#[]⟩, .string ⟨#[]⟩, .slice none 0 0, .slice none 0 0, .slice none 0 0] 46 (0, 0)) := set_at h0_ 0 (.int .i64 d.kind)
      have h2_ : ((wz.setCell ⟨w.heap.size + 1, 0, none⟩ (.int .i64 d.kind)).setCell ⟨w.heap.size + 1, 1, none⟩ (.string d.name)).heap[w.heap.size + 1]? = some (.cells #[.int .i64 d.kind, .string d.name, .string ⟨#[]⟩, .int .i64 0, .int .i64 0, .string ⟨#[]⟩, .string ⟨#[]⟩, .slice none 0 0, .slice none 0 0, .slice none 0 0] 46 (0, 0)) := set_at h1_ 1 (.string d.name)
      have h3_ : (((wz.setCell ⟨w.heap.size + 1, 0, none⟩ (.int .i64 d.kind)).setCell ⟨w.heap.size + 1, 1, none⟩ (.string d.name)).setCell ⟨w.heap.size + 1, 2, none⟩ (.string d.of)).heap[w.heap.size + 1]? = some (.cells #[.int .i64 d.kind, .string d.name, .string d.of, .int .i64 0, .int .i64 0, .string ⟨#[]⟩, .string ⟨#[]⟩, .slice none 0 0, .slice none 0 0, .slice none 0 0] 46 (0, 0)) := set_at h2_ 2 (.string d.of)
      have h4_ : ((((wz.setCell ⟨w.heap.size + 1, 0, none⟩ (.int .i64 d.kind)).setCell ⟨w.heap.size + 1, 1, none⟩ (.string d.name)).setCell ⟨w.heap.size + 1, 2, none⟩ (.string d.of)).setCell ⟨w.heap.size + 1, 3, none⟩ (.int .i64 d.value)).heap[w.heap.size + 1]? = some (.cells #[.int .i64 d.kind, .string d.name, .string d.of, .int .i64 d.value, .int .i64 0, .string ⟨#[]⟩, .string ⟨#[]⟩, .slice none 0 0, .slice none 0 0, .slice none 0 0] 46 (0, 0)) := set_at h3_ 3 (.int .i64 d.value)
      have h5_ : (((((wz.setCell ⟨w.heap.size + 1, 0, none⟩ (.int .i64 d.kind)).setCell ⟨w.heap.size + 1, 1, none⟩ (.string d.name)).setCell ⟨w.heap.size + 1, 2, none⟩ (.string d.of)).setCell ⟨w.heap.size + 1, 3, none⟩ (.int .i64 d.value)).setCell ⟨w.heap.size + 1, 4, none⟩ (.int .i64 d.type.kind)).heap[w.heap.size + 1]? = some (.cells #[.int .i64 d.kind, .string d.name, .string d.of, .int .i64 d.value, .int .i64 d.type.kind, .string ⟨#[]⟩, .string ⟨#[]⟩, .slice none 0 0, .slice none 0 0, .slice none 0 0] 46 (0, 0)) := set_at h4_ 4 (.int .i64 d.type.kind)
      have h6_ : ((((((wz.setCell ⟨w.heap.size + 1, 0, none⟩ (.int .i64 d.kind)).setCell ⟨w.heap.size + 1, 1, none⟩ (.string d.name)).setCell ⟨w.heap.size + 1, 2, none⟩ (.string d.of)).setCell ⟨w.heap.size + 1, 3, none⟩ (.int .i64 d.value)).setCell ⟨w.heap.size + 1, 4, none⟩ (.int .i64 d.type.kind)).setCell ⟨w.heap.size + 1, 5, none⟩ (.string d.type.pkg)).heap[w.heap.size + 1]? = some (.cells #[.int .i64 d.kind, .string d.name, .string d.of, .int .i64 d.value, .int .i64 d.type.kind, .string d.type.pkg, .string ⟨#[]⟩, .slice none 0 0, .slice none 0 0, .slice none 0 0] 46 (0, 0)) := set_at h5_ 5 (.string d.type.pkg)
      have h7_ : (((((((wz.setCell ⟨w.heap.size + 1, 0, none⟩ (.int .i64 d.kind)).setCell ⟨w.heap.size + 1, 1, none⟩ (.string d.name)).setCell ⟨w.heap.size + 1, 2, none⟩ (.string d.of)).setCell ⟨w.heap.size + 1, 3, none⟩ (.int .i64 d.value)).setCell ⟨w.heap.size + 1, 4, none⟩ (.int .i64 d.type.kind)).setCell ⟨w.heap.size + 1, 5, none⟩ (.string d.type.pkg)).setCell ⟨w.heap.size + 1, 6, none⟩ (.string d.type.name)).heap[w.heap.size + 1]? = some (.cells #[.int .i64 d.kind, .string d.name, .string d.of, .int .i64 d.value, .int .i64 d.type.kind, .string d.type.pkg, .string d.type.name, .slice none 0 0, .slice none 0 0, .slice none 0 0] 46 (0, 0)) := set_at h6_ 6 (.string d.type.name)
      have h8_ : ((((((((wz.setCell ⟨w.heap.size + 1, 0, none⟩ (.int .i64 d.kind)).setCell ⟨w.heap.size + 1, 1, none⟩ (.string d.name)).setCell ⟨w.heap.size + 1, 2, none⟩ (.string d.of)).setCell ⟨w.heap.size + 1, 3, none⟩ (.int .i64 d.value)).setCell ⟨w.heap.size + 1, 4, none⟩ (.int .i64 d.type.kind)).setCell ⟨w.heap.size + 1, 5, none⟩ (.string d.type.pkg)).setCell ⟨w.heap.size + 1, 6, none⟩ (.string d.type.name)).setCell ⟨w.heap.size + 1, 7, none⟩ (.slice A7 d.type.args.length c7)).heap[w.heap.size + 1]? = some (.cells #[.int .i64 d.kind, .string d.name, .string d.of, .int .i64 d.value, .int .i64 d.type.kind, .string d.type.pkg, .string d.type.name, .slice A7 d.type.args.length c7, .slice none 0 0, .slice none 0 0] 46 (0, 0)) := set_at h7_ 7 (.slice A7 d.type.args.length c7)
      have h9_ : (((((((((wz.setCell ⟨w.heap.size + 1, 0, none⟩ (.int .i64 d.kind)).setCell ⟨w.heap.size + 1, 1, none⟩ (.string d.name)).setCell ⟨w.heap.size + 1, 2, none⟩ (.string d.of)).setCell ⟨w.heap.size + 1, 3, none⟩ (.int .i64 d.value)).setCell ⟨w.heap.size + 1, 4, none⟩ (.int .i64 d.type.kind)).setCell ⟨w.heap.size + 1, 5, none⟩ (.string d.type.pkg)).setCell ⟨w.heap.size + 1, 6, none⟩ (.string d.type.name)).setCell ⟨w.heap.size + 1, 7, none⟩ (.slice A7 d.type.args.length c7)).setCell ⟨w.heap.size + 1, 8, none⟩ (.slice A8 d.type.res.length c8)).heap[w.heap.size + 1]? = some (.cells #[.int .i64 d.kind, .string d.name, .string d.of, .int .i64 d.value, .int .i64 d.type.kind, .string d.type.pkg, .string d.type.name, .slice A7 d.type.args.length c7, .slice A8 d.type.res.length c8, .slice none 0 0] 46 (0, 0)) := set_at h8_ 8 (.slice A8 d.type.res.length c8)
      have h10_ : ((((((((((wz.setCell ⟨w.heap.size + 1, 0, none⟩ (.int .i64 d.kind)).setCell ⟨w.heap.size + 1, 1, none⟩ (.string d.name)).setCell ⟨w.heap.size + 1, 2, none⟩ (.string d.of)).setCell ⟨w.heap.size + 1, 3, none⟩ (.int .i64 d.value)).setCell ⟨w.heap.size + 1, 4, none⟩ (.int .i64 d.type.kind)).setCell ⟨w.heap.size + 1, 5, none⟩ (.string d.type.pkg)).setCell ⟨w.heap.size + 1, 6, none⟩ (.string d.type.name)).setCell ⟨w.heap.size + 1, 7, none⟩ (.slice A7 d.type.args.length c7)).setCell ⟨w.heap.size + 1, 8, none⟩ (.slice A8 d.type.res.length c8)).setCell ⟨w.heap.size + 1, 9, none⟩ (.slice A9 d.fields.length c9)).heap[w.heap.size + 1]? = some (.cells #[.int .i64 d.kind, .string d.name, .string d.of, .int .i64 d.value, .int .i64 d.type.kind, .string d.type.pkg, .string d.type.name, .slice A7 d.type.args.length c7, .slice A8 d.type.res.length c8, .slice A9 d.fields.length c9] 46 (0, 0)) := set_at h9_ 9 (.slice A9 d.fields.length c9)
      have HD := Lib.hid (drew_at h10_)
      have HSET := Lib.hid (show Chg (fun j => j = w.heap.size + 1) wz ((((((((((wz.setCell ⟨w.heap.size + 1, 0, none⟩ (.int .i64 d.kind)).setCell ⟨w.heap.size + 1, 1, none⟩ (.string d.name)).setCell ⟨w.heap.size + 1, 2, none⟩ (.string d.of)).setCell ⟨w.heap.size + 1, 3, none⟩ (.int .i64 d.value)).setCell ⟨w.heap.size + 1, 4, none⟩ (.int .i64 d.type.kind)).setCell ⟨w.heap.size + 1, 5, none⟩ (.string d.type.pkg)).setCell ⟨w.heap.size + 1, 6, none⟩ (.string d.type.name)).setCell ⟨w.heap.size + 1, 7, none⟩ (.slice A7 d.type.args.length c7)).setCell ⟨w.heap.size + 1, 8, none⟩ (.slice A8 d.type.res.length c8)).setCell ⟨w.heap.size + 1, 9, none⟩ (.slice A9 d.fields.length c9)) from (((((((((((Chg.refl (fun j => j = w.heap.size + 1) wz).setCell (p := ⟨w.heap.size + 1, 0, none⟩) (fun _ => rfl) (.int .i64 d.kind)).setCell (p := ⟨w.heap.size + 1, 1, none⟩) (fun _ => rfl) (.string d.name)).setCell (p := ⟨w.heap.size + 1, 2, none⟩) (fun _ => rfl) (.string d.of)).setCell (p := ⟨w.heap.size + 1, 3, none⟩) (fun _ => rfl) (.int .i64 d.value)).setCell (p := ⟨w.heap.size + 1, 4, none⟩) (fun _ => rfl) (.int .i64 d.type.kind)).setCell (p := ⟨w.heap.size + 1, 5, none⟩) (fun _ => rfl) (.string d.type.pkg)).setCell (p := ⟨w.heap.size + 1, 6, none⟩) (fun _ => rfl) (.string d.type.name)).setCell (p := ⟨w.heap.size + 1, 7, none⟩) (fun _ => rfl) (.slice A7 d.type.args.length c7)).setCell (p := ⟨w.heap.size + 1, 8, none⟩) (fun _ => rfl) (.slice A8 d.type.res.length c8)).setCell (p := ⟨w.heap.size + 1, 9, none⟩) (fun _ => rfl) (.slice A9 d.fields.length c9)))
      have HF := Lib.hid (show Below w.heap.size w ((((((((((wz.setCell ⟨w.heap.size + 1, 0, none⟩ (.int .i64 d.kind)).setCell ⟨w.heap.size + 1, 1, none⟩ (.string d.name)).setCell ⟨w.heap.size + 1, 2, none⟩ (.string d.of)).setCell ⟨w.heap.size + 1, 3, none⟩ (.int .i64 d.value)).setCell ⟨w.heap.size + 1, 4, none⟩ (.int .i64 d.type.kind)).setCell ⟨w.heap.size + 1, 5, none⟩ (.string d.type.pkg)).setCell ⟨w.heap.size + 1, 6, none⟩ (.string d.type.name)).setCell ⟨w.heap.size + 1, 7, none⟩ (.slice A7 d.type.args.length c7)).setCell ⟨w.heap.size + 1, 8, none⟩ (.slice A8 d.type.res.length c8)).setCell ⟨w.heap.size + 1, 9, none⟩ (.slice A9 d.fields.length c9)).drew from Below.chg HB2.out HSET.out.drew HB2.out.size (fun i hi => by omega))
      clear h0_ h1_ h2_ h3_ h4_ h5_ h6_ h7_ h8_ h9_ h10_
      refine wpT_one rfl (fun K hK => ?_)
      go_wp2_with fail
      refine hK _ _ HSET.out.drew ?_
      clear hK K
      apply wpT_get rfl
      · go_simp
      · intro wS hS
        go_simp
        try rfl
      intro K hK
      go_simp
      refine hK _ ?_
      clear hK K
      refine wpT_doneN ?_
      go_wp2_with fail
      have d0_ : ((((((((((wz.setCell ⟨w.heap.size + 1, 0, none⟩ (.int .i64 d.kind)).setCell ⟨w.heap.size + 1, 1, none⟩ (.string d.name)).setCell ⟨w.heap.size + 1, 2, none⟩ (.string d.of)).setCell ⟨w.heap.size + 1, 3, none⟩ (.int .i64 d.value)).setCell ⟨w.heap.size + 1, 4, none⟩ (.int .i64 d.type.kind)).setCell ⟨w.heap.size + 1, 5, none⟩ (.string d.type.pkg)).setCell ⟨w.heap.size + 1, 6, none⟩ (.string d.type.name)).setCell ⟨w.heap.size + 1, 7, none⟩ (.slice A7 d.type.args.length c7)).setCell ⟨w.heap.size + 1, 8, none⟩ (.slice A8 d.type.res.length c8)).setCell ⟨w.heap.size + 1, 9, none⟩ (.slice A9 d.fields.length c9)).drew.cell? ⟨w.heap.size + 1, 0, none⟩ = some (.int .i64 d.kind) := (cell_at HD.out 0).trans rfl
      have d1_ : ((((((((((wz.setCell ⟨w.heap.size + 1, 0, none⟩ (.int .i64 d.kind)).setCell ⟨w.heap.size + 1, 1, none⟩ (.string d.name)).setCell ⟨w.heap.size + 1, 2, none⟩ (.string d.of)).setCell ⟨w.heap.size + 1, 3, none⟩ (.int .i64 d.value)).setCell ⟨w.heap.size + 1, 4, none⟩ (.int .i64 d.type.kind)).setCell ⟨w.heap.size + 1, 5, none⟩ (.string d.type.pkg)).setCell ⟨w.heap.size + 1, 6, none⟩ (.string d.type.name)).setCell ⟨w.heap.size + 1, 7, none⟩ (.slice A7 d.type.args.length c7)).setCell ⟨w.heap.size + 1, 8, none⟩ (.slice A8 d.type.res.length c8)).setCell ⟨w.heap.size + 1, 9, none⟩ (.slice A9 d.fields.length c9)).drew.cell? ⟨w.heap.size + 1, 1, none⟩ = some (.string d.name) := (cell_at HD.out 1).trans rfl
      have d2_ : ((((((((((wz.setCell ⟨w.heap.size + 1, 0, none⟩ (.int .i64 d.kind)).setCell ⟨w.heap.size + 1, 1, none⟩ (.string d.name)).setCell ⟨w.heap.size + 1, 2, none⟩ (.string d.of)).setCell ⟨w.heap.size + 1, 3, none⟩ (.int .i64 d.value)).setCell ⟨w.heap.size + 1, 4, none⟩ (.int .i64 d.type.kind)).setCell ⟨w.heap.size + 1, 5, none⟩ (.string d.type.pkg)).setCell ⟨w.heap.size + 1, 6, none⟩ (.string d.type.name)).setCell ⟨w.heap.size + 1, 7, none⟩ (.slice A7 d.type.args.length c7)).setCell ⟨w.heap.size + 1, 8, none⟩ (.slice A8 d.type.res.length c8)).setCell ⟨w.heap.size + 1, 9, none⟩ (.slice A9 d.fields.length c9)).drew.cell? ⟨w.heap.size + 1, 2, none⟩ = some (.string d.of) := (cell_at HD.out 2).trans rfl
      have d3_ : ((((((((((wz.setCell ⟨w.heap.size + 1, 0, none⟩ (.int .i64 d.kind)).setCell ⟨w.heap.size + 1, 1, none⟩ (.string d.name)).setCell ⟨w.heap.size + 1, 2, none⟩ (.string d.of)).setCell ⟨w.heap.size + 1, 3, none⟩ (.int .i64 d.value)).setCell ⟨w.heap.size + 1, 4, none⟩ (.int .i64 d.type.kind)).setCell ⟨w.heap.size + 1, 5, none⟩ (.string d.type.pkg)).setCell ⟨w.heap.size + 1, 6, none⟩ (.string d.type.name)).setCell ⟨w.heap.size + 1, 7, none⟩ (.slice A7 d.type.args.length c7)).setCell ⟨w.heap.size + 1, 8, none⟩ (.slice A8 d.type.res.length c8)).setCell ⟨w.heap.size + 1, 9, none⟩ (.slice A9 d.fields.length c9)).drew.cell? ⟨w.heap.size + 1, 3, none⟩ = some (.int .i64 d.value) := (cell_at HD.out 3).trans rfl
      have d4_ : ((((((((((wz.setCell ⟨w.heap.size + 1, 0, none⟩ (.int .i64 d.kind)).setCell ⟨w.heap.size + 1, 1, none⟩ (.string d.name)).setCell ⟨w.heap.size + 1, 2, none⟩ (.string d.of)).setCell ⟨w.heap.size + 1, 3, none⟩ (.int .i64 d.value)).setCell ⟨w.heap.size + 1, 4, none⟩ (.int .i64 d.type.kind)).setCell ⟨w.heap.size + 1, 5, none⟩ (.string d.type.pkg)).setCell ⟨w.heap.size + 1, 6, none⟩ (.string d.type.name)).setCell ⟨w.heap.size + 1, 7, none⟩ (.slice A7 d.type.args.length c7)).setCell ⟨w.heap.size + 1, 8, none⟩ (.slice A8 d.type.res.length c8)).setCell ⟨w.heap.size + 1, 9, none⟩ (.slice A9 d.fields.length c9)).drew.cell? ⟨w.heap.size + 1, 4, none⟩ = some (.int .i64 d.type.kind) := (cell_at HD.out 4).trans rfl
      have d5_ : ((((((((((wz.setCell ⟨w.heap.size + 1, 0, none⟩ (.int .i64 d.kind)).setCell ⟨w.heap.size + 1, 1, none⟩ (.string d.name)).setCell ⟨w.heap.size + 1, 2, none⟩ (.string d.of)).setCell ⟨w.heap.size + 1, 3, none⟩ (.int .i64 d.value)).setCell ⟨w.heap.size + 1, 4, none⟩ (.int .i64 d.type.kind)).setCell ⟨w.heap.size + 1, 5, none⟩ (.string d.type.pkg)).setCell ⟨w.heap.size + 1, 6, none⟩ (.string d.type.name)).setCell ⟨w.heap.size + 1, 7, none⟩ (.slice A7 d.type.args.length c7)).setCell ⟨w.heap.size + 1, 8, none⟩ (.slice A8 d.type.res.length c8)).setCell ⟨w.heap.size + 1, 9, none⟩ (.slice A9 d.fields.length c9)).drew.cell? ⟨w.heap.size + 1, 5, none⟩ = some (.string d.type.pkg) := (cell_at HD.out 5).trans rfl
      have d6_ : ((((((((((wz.setCell ⟨w.heap.size + 1, 0, none⟩ (.int .i64 d.kind)).setCell ⟨w.heap.size + 1, 1, none⟩ (.string d.name)).setCell ⟨w.heap.size + 1, 2, none⟩ (.string d.of)).setCell ⟨w.heap.size + 1, 3, none⟩ (.int .i64 d.value)).setCell ⟨w.heap.size + 1, 4, none⟩ (.int .i64 d.type.kind)).setCell ⟨w.heap.size + 1, 5, none⟩ (.string d.type.pkg)).setCell ⟨w.heap.size + 1, 6, none⟩ (.string d.type.name)).setCell ⟨w.heap.size + 1, 7, none⟩ (.slice A7 d.type.args.length c7)).setCell ⟨w.heap.size + 1, 8, none⟩ (.slice A8 d.type.res.length c8)).setCell ⟨w.heap.size + 1, 9, none⟩ (.slice A9 d.fields.length c9)).drew.cell? ⟨w.heap.size + 1, 6, none⟩ = some (.string d.type.name) := (cell_at HD.out 6).trans rfl
      have d7_ : ((((((((((wz.setCell ⟨w.heap.size + 1, 0, none⟩ (.int .i64 d.kind)).setCell ⟨w.heap.size + 1, 1, none⟩ (.string d.name)).setCell ⟨w.heap.size + 1, 2, none⟩ (.string d.of)).setCell ⟨w.heap.size + 1, 3, none⟩ (.int .i64 d.value)).setCell ⟨w.heap.size + 1, 4, none⟩ (.int .i64 d.type.kind)).setCell ⟨w.heap.size + 1, 5, none⟩ (.string d.type.pkg)).setCell ⟨w.heap.size + 1, 6, none⟩ (.string d.type.name)).setCell ⟨w.heap.size + 1, 7, none⟩ (.slice A7 d.type.args.length c7)).setCell ⟨w.heap.size + 1, 8, none⟩ (.slice A8 d.type.res.length c8)).setCell ⟨w.heap.size + 1, 9, none⟩ (.slice A9 d.fields.length c9)).drew.cell? ⟨w.heap.size + 1, 7, none⟩ = some (.slice A7 d.type.args.length c7) := (cell_at HD.out 7).trans rfl
      have d8_ : ((((((((((wz.setCell ⟨w.heap.size + 1, 0, none⟩ (.int .i64 d.kind)).setCell ⟨w.heap.size + 1, 1, none⟩ (.string d.name)).setCell ⟨w.heap.size + 1, 2, none⟩ (.string d.of)).setCell ⟨w.heap.size + 1, 3, none⟩ (.int .i64 d.value)).setCell ⟨w.heap.size + 1, 4, none⟩ (.int .i64 d.type.kind)).setCell ⟨w.heap.size + 1, 5, none⟩ (.string d.type.pkg)).setCell ⟨w.heap.size + 1, 6, none⟩ (.string d.type.name)).setCell ⟨w.heap.size + 1, 7, none⟩ (.slice A7 d.type.args.length c7)).setCell ⟨w.heap.size + 1, 8, none⟩ (.slice A8 d.type.res.length c8)).setCell ⟨w.heap.size + 1, 9, none⟩ (.slice A9 d.fields.length c9)).drew.cell? ⟨w.heap.size + 1, 8, none⟩ = some (.slice A8 d.type.res.length c8) := (cell_at HD.out 8).trans rfl
      have d9_ : ((((((((((wz.setCell ⟨w.heap.size + 1, 0, none⟩ (.int .i64 d.kind)).setCell ⟨w.heap.size + 1, 1, none⟩ (.string d.name)).setCell ⟨w.heap.size + 1, 2, none⟩ (.string d.of)).setCell ⟨w.heap.size + 1, 3, none⟩ (.int .i64 d.value)).setCell ⟨w.heap.size + 1, 4, none⟩ (.int .i64 d.type.kind)).setCell ⟨w.heap.size + 1, 5, none⟩ (.string d.type.pkg)).setCell ⟨w.heap.size + 1, 6, none⟩ (.string d.type.name)).setCell ⟨w.heap.size + 1, 7, none⟩ (.slice A7 d.type.args.length c7)).setCell ⟨w.heap.size + 1, 8, none⟩ (.slice A8 d.type.res.length c8)).setCell ⟨w.heap.size + 1, 9, none⟩ (.slice A9 d.fields.length c9)).drew.cell? ⟨w.heap.size + 1, 9, none⟩ = some (.slice A9 d.fields.length c9) := (cell_at HD.out 9).trans rfl
      refine bodyPost_ret (v := .tuple #[.agg #[.int .i64 d.kind, .string d.name, .string d.of, .int .i64 d.value, .int .i64 d.type.kind, .string d.type.pkg, .string d.type.name, .slice A7 d.type.args.length c7, .slice A8 d.type.res.length c8, .slice A9 d.fields.length c9], .bool false]) (by simp [results, Try.results39, go_sem, d0_, d1_, d2_, d3_, d4_, d5_, d6_, d7_, d8_, d9_]) rfl ?_
      exact ⟨_, d, by rw [HX.out]; rfl, HV.out, fun d' h => (by rw [HX.out] at h; cases h; try rfl), HF.out⟩
  | false =>
    have HX := Lib.hid (show faceP us t = none by
      rw [HFP.out]
      have h2 := HQE.out
      cases r with
      | none => rfl
      | some x => cases h2)
    refine wp_region_otN (fun wS => Chg (fun j => j = w.heap.size + 1) wz wS) (.get 0 (.get 1 (.get 2 (.get 3 (.get 4 (.get 5 (.get 6 (.one 7 (.get 8 .done))))))))) (by kernel_rfl) (by kernel_rfl) (Chg.refl _ _).drew ?_
    apply wpT_get rfl
    · go_simp
    · intro wS hS
      have x0 := (cell_at (hS.heap HD2.out HNE.out) 0).trans rfl
      have x1 := (cell_at (hS.heap HD2.out HNE.out) 1).trans rfl
      have x2 := (cell_at (hS.heap HD2.out HNE.out) 2).trans rfl
      have x3 := (cell_at (hS.heap HD2.out HNE.out) 3).trans rfl
      have x4 := (cell_at (hS.heap HD2.out HNE.out) 4).trans rfl
      have x5 := (cell_at (hS.heap HD2.out HNE.out) 5).trans rfl
      have x6 := (cell_at (hS.heap HD2.out HNE.out) 6).trans rfl
      have x7 := (cell_at (hS.heap HD2.out HNE.out) 7).trans rfl
      have x8 := (cell_at (hS.heap HD2.out HNE.out) 8).trans rfl
      have x9 := (cell_at (hS.heap HD2.out HNE.out) 9).trans rfl
      go_simp
      try rfl
    intro K hK
    go_simp
    refine hK _ ?_
    clear hK K
    apply wpT_get rfl
    · go_simp
    · intro wS hS
      go_simp
      try rfl
    intro K hK
    go_simp
    refine hK _ ?_
    clear hK K
    apply wpT_get rfl
    · go_simp
    · intro wS hS
      go_simp
      try rfl
    intro K hK
    go_simp
    refine hK _ ?_
    clear hK K
    apply wpT_skip rfl
    · go_simp
    intro K hK
    go_simp
    refine hK _ ?_
    clear hK K
    apply wpT_skip rfl
    · go_simp
    intro K hK
    go_simp
    refine hK _ ?_
    clear hK K
    apply wpT_skip rfl
    · go_simp
    intro K hK
    go_simp
    refine hK _ ?_
    clear hK K
    apply wpT_get rfl
    · go_simp
    · intro wS hS
      go_simp
      try rfl
    intro K hK
    go_simp
    refine hK _ ?_
    clear hK K
    have r0_ : wz.cell? ⟨w.heap.size + 1, 0, none⟩ = some (.int .i64 0) := (cell_at HR2.out 0).trans rfl
    have s0_ : wz.frozen? ⟨w.heap.size + 1, 0, none⟩ = false := free_at HR2.out 0
    have r1_ : wz.cell? ⟨w.heap.size + 1, 1, none⟩ = some (.string ⟨#[]⟩) := (cell_at HR2.out 1).trans rfl
    have s1_ : wz.frozen? ⟨w.heap.size + 1, 1, none⟩ = false := free_at HR2.out 1
    have r2_ : wz.cell? ⟨w.heap.size + 1, 2, none⟩ = some (.string ⟨#[]⟩) := (cell_at HR2.out 2).trans rfl
    have s2_ : wz.frozen? ⟨w.heap.size + 1, 2, none⟩ = false := free_at HR2.out 2
    have r3_ : wz.cell? ⟨w.heap.size + 1, 3, none⟩ = some (.int .i64 0) := (cell_at HR2.out 3).trans rfl
    have s3_ : wz.frozen? ⟨w.heap.size + 1, 3, none⟩ = false := free_at HR2.out 3
    have r4_ : wz.cell? ⟨w.heap.size + 1, 4, none⟩ = some (.int .i64 0) := (cell_at HR2.out 4).trans rfl
    have s4_ : wz.frozen? ⟨w.heap.size + 1, 4, none⟩ = false := free_at HR2.out 4
    have r5_ : wz.cell? ⟨w.heap.size + 1, 5, none⟩ = some (.string ⟨#[]⟩) := (cell_at HR2.out 5).trans rfl
    have s5_ : wz.frozen? ⟨w.heap.size + 1, 5, none⟩ = false := free_at HR2.out 5
    have r6_ : wz.cell? ⟨w.heap.size + 1, 6, none⟩ = some (.string ⟨#[]⟩) := (cell_at HR2.out 6).trans rfl
    have s6_ : wz.frozen? ⟨w.heap.size + 1, 6, none⟩ = false := free_at HR2.out 6
    have r7_ : wz.cell? ⟨w.heap.size + 1, 7, none⟩ = some (.slice none 0 0) := (cell_at HR2.out 7).trans rfl
    have s7_ : wz.frozen? ⟨w.heap.size + 1, 7, none⟩ = false := free_at HR2.out 7
    have r8_ : wz.cell? ⟨w.heap.size + 1, 8, none⟩ = some (.slice none 0 0) := (cell_at HR2.out 8).trans rfl
    have s8_ : wz.frozen? ⟨w.heap.size + 1, 8, none⟩ = false := free_at HR2.out 8
    have r9_ : wz.cell? ⟨w.heap.size + 1, 9, none⟩ = some (.slice none 0 0) := (cell_at HR2.out 9).trans rfl
    have s9_ : wz.frozen? ⟨w.heap.size + 1, 9, none⟩ = false := free_at HR2.out 9
    have h0_ := HR2.out
    have h1_ : (wz.setCell ⟨w.heap.size + 1, 0, none⟩ (.int .i64 d.kind)).heap[w.heap.size + 1]? = some (.cells #[.int .i64 d.kind, .string ⟨#[]⟩, .string ⟨#[]⟩, .int .i64 0, .int .i64 0, .string ⟨#[]⟩, .string ⟨#[]⟩, .slice none 0 0, .slice none 0 0, .slice none 0 0] 46 (0, 0)) := set_at h0_ 0 (.int .i64 d.kind)
    have h2_ : ((wz.setCell ⟨w.heap.size + 1, 0, none⟩ (.int .i64 d.kind)).setCell ⟨w.heap.size + 1, 1, none⟩ (.string d.name)).heap[w.heap.size + 1]? = some (.cells #[.int .i64 d.kind, .string d.name, .string ⟨#[]⟩, .int .i64 0, .int .i64 0, .string ⟨#[]⟩, .string ⟨#[]⟩, .slice none 0 0, .slice none 0 0, .slice none 0 0] 46 (0, 0)) := set_at h1_ 1 (.string d.name)
    have h3_ : (((wz.setCell ⟨w.heap.size + 1, 0, none⟩ (.int .i64 d.kind)).setCell ⟨w.heap.size + 1, 1, none⟩ (.string d.name)).setCell ⟨w.heap.size + 1, 2, none⟩ (.string d.of)).heap[w.heap.size + 1]? = some (.cells #[.int .i64 d.kind, .string d.name, .string d.of, .int .i64 0, .int .i64 0, .string ⟨#[]⟩, .string ⟨#[]⟩, .slice none 0 0, .slice none 0 0, .slice none 0 0] 46 (0, 0)) := set_at h2_ 2 (.string d.of)
    have h4_ : ((((wz.setCell ⟨w.heap.size + 1, 0, none⟩ (.int .i64 d.kind)).setCell ⟨w.heap.size + 1, 1, none⟩ (.string d.name)).setCell ⟨w.heap.size + 1, 2, none⟩ (.string d.of)).setCell ⟨w.heap.size + 1, 3, none⟩ (.int .i64 d.value)).heap[w.heap.size + 1]? = some (.cells #[.int .i64 d.kind, .string d.name, .string d.of, .int .i64 d.value, .int .i64 0, .string ⟨#[]⟩, .string ⟨#[]⟩, .slice none 0 0, .slice none 0 0, .slice none 0 0] 46 (0, 0)) := set_at h3_ 3 (.int .i64 d.value)
    have h5_ : (((((wz.setCell ⟨w.heap.size + 1, 0, none⟩ (.int .i64 d.kind)).setCell ⟨w.heap.size + 1, 1, none⟩ (.string d.name)).setCell ⟨w.heap.size + 1, 2, none⟩ (.string d.of)).setCell ⟨w.heap.size + 1, 3, none⟩ (.int .i64 d.value)).setCell ⟨w.heap.size + 1, 4, none⟩ (.int .i64 d.type.kind)).heap[w.heap.size + 1]? = some (.cells #[.int .i64 d.kind, .string d.name, .string d.of, .int .i64 d.value, .int .i64 d.type.kind, .string ⟨#[]⟩, .string ⟨#[]⟩, .slice none 0 0, .slice none 0 0, .slice none 0 0] 46 (0, 0)) := set_at h4_ 4 (.int .i64 d.type.kind)
    have h6_ : ((((((wz.setCell ⟨w.heap.size + 1, 0, none⟩ (.int .i64 d.kind)).setCell ⟨w.heap.size + 1, 1, none⟩ (.string d.name)).setCell ⟨w.heap.size + 1, 2, none⟩ (.string d.of)).setCell ⟨w.heap.size + 1, 3, none⟩ (.int .i64 d.value)).setCell ⟨w.heap.size + 1, 4, none⟩ (.int .i64 d.type.kind)).setCell ⟨w.heap.size + 1, 5, none⟩ (.string d.type.pkg)).heap[w.heap.size + 1]? = some (.cells #[.int .i64 d.kind, .string d.name, .string d.of, .int .i64 d.value, .int .i64 d.type.kind, .string d.type.pkg, .string ⟨#[]⟩, .slice none 0 0, .slice none 0 0, .slice none 0 0] 46 (0, 0)) := set_at h5_ 5 (.string d.type.pkg)
    have h7_ : (((((((wz.setCell ⟨w.heap.size + 1, 0, none⟩ (.int .i64 d.kind)).setCell ⟨w.heap.size + 1, 1, none⟩ (.string d.name)).setCell ⟨w.heap.size + 1, 2, none⟩ (.string d.of)).setCell ⟨w.heap.size + 1, 3, none⟩ (.int .i64 d.value)).setCell ⟨w.heap.size + 1, 4, none⟩ (.int .i64 d.type.kind)).setCell ⟨w.heap.size + 1, 5, none⟩ (.string d.type.pkg)).setCell ⟨w.heap.size + 1, 6, none⟩ (.string d.type.name)).heap[w.heap.size + 1]? = some (.cells #[.int .i64 d.kind, .string d.name, .string d.of, .int .i64 d.value, .int .i64 d.type.kind, .string d.type.pkg, .string d.type.name, .slice none 0 0, .slice none 0 0, .slice none 0 0] 46 (0, 0)) := set_at h6_ 6 (.string d.type.name)
    have h8_ : ((((((((wz.setCell ⟨w.heap.size + 1, 0, none⟩ (.int .i64 d.kind)).setCell ⟨w.heap.size + 1, 1, none⟩ (.string d.name)).setCell ⟨w.heap.size + 1, 2, none⟩ (.string d.of)).setCell ⟨w.heap.size + 1, 3, none⟩ (.int .i64 d.value)).setCell ⟨w.heap.size + 1, 4, none⟩ (.int .i64 d.type.kind)).setCell ⟨w.heap.size + 1, 5, none⟩ (.string d.type.pkg)).setCell ⟨w.heap.size + 1, 6, none⟩ (.string d.type.name)).setCell ⟨w.heap.size + 1, 7, none⟩ (.slice A7 d.type.args.length c7)).heap[w.heap.size + 1]? = some (.cells #[.int .i64 d.kind, .string d.name, .string d.of, .int .i64 d.value, .int .i64 d.type.kind, .string d.type.pkg, .string d.type.name, .slice A7 d.type.args.length c7, .slice none 0 0, .slice none 0 0] 46 (0, 0)) := set_at h7_ 7 (.slice A7 d.type.args.length c7)
    have h9_ : (((((((((wz.setCell ⟨w.heap.size + 1, 0, none⟩ (.int .i64 d.kind)).setCell ⟨w.heap.size + 1, 1, none⟩ (.string d.name)).setCell ⟨w.heap.size + 1, 2, none⟩ (.string d.of)).setCell ⟨w.heap.size + 1, 3, none⟩ (.int .i64 d.value)).setCell ⟨w.heap.size + 1, 4, none⟩ (.int .i64 d.type.kind)).setCell ⟨w.heap.size + 1, 5, none⟩ (.string d.type.pkg)).setCell ⟨w.heap.size + 1, 6, none⟩ (.string d.type.name)).setCell ⟨w.heap.size + 1, 7, none⟩ (.slice A7 d.type.args.length c7)).setCell ⟨w.heap.size + 1, 8, none⟩ (.slice A8 d.type.res.length c8)).heap[w.heap.size + 1]? = some (.cells #[.int .i64 d.kind, .string d.name, .string d.of, .int .i64 d.value, .int .i64 d.type.kind, .string d.type.pkg, .string d.type.name, .slice A7 d.type.args.length c7, .slice A8 d.type.res.length c8, .slice none 0 0] 46 (0, 0)) := set_at h8_ 8 (.slice A8 d.type.res.length c8)
    have h10_ : ((((((((((wz.setCell ⟨w.heap.size + 1, 0, none⟩ (.int .i64 d.kind)).setCell ⟨w.heap.size + 1, 1, none⟩ (.string d.name)).setCell ⟨w.heap.size + 1, 2, none⟩ (.string d.of)).setCell ⟨w.heap.size + 1, 3, none⟩ (.int .i64 d.value)).setCell ⟨w.heap.size + 1, 4, none⟩ (.int .i64 d.type.kind)).setCell ⟨w.heap.size + 1, 5, none⟩ (.string d.type.pkg)).setCell ⟨w.heap.size + 1, 6, none⟩ (.string d.type.name)).setCell ⟨w.heap.size + 1, 7, none⟩ (.slice A7 d.type.args.length c7)).setCell ⟨w.heap.size + 1, 8, none⟩ (.slice A8 d.type.res.length c8)).setCell ⟨w.heap.size + 1, 9, none⟩ (.slice A9 d.fields.length c9)).heap[w.heap.size + 1]? = some (.cells #[.int .i64 d.kind, .string d.name, .string d.of, .int .i64 d.value, .int .i64 d.type.kind, .string d.type.pkg, .string d.type.name, .slice A7 d.type.args.length c7, .slice A8 d.type.res.length c8, .slice A9 d.fields.length c9] 46 (0, 0)) := set_at h9_ 9 (.slice A9 d.fields.length c9)
    have HD := Lib.hid (drew_at h10_)
    have HSET := Lib.hid (show Chg (fun j => j = w.heap.size + 1) wz ((((((((((wz.setCell ⟨w.heap.size + 1, 0, none⟩ (.int .i64 d.kind)).setCell ⟨w.heap.size + 1, 1, none⟩ (.string d.name)).setCell ⟨w.heap.size + 1, 2, none⟩ (.string d.of)).setCell ⟨w.heap.size + 1, 3, none⟩ (.int .i64 d.value)).setCell ⟨w.heap.size + 1, 4, none⟩ (.int .i64 d.type.kind)).setCell ⟨w.heap.size + 1, 5, none⟩ (.string d.type.pkg)).setCell ⟨w.heap.size + 1, 6, none⟩ (.string d.type.name)).setCell ⟨w.heap.size + 1, 7, none⟩ (.slice A7 d.type.args.length c7)).setCell ⟨w.heap.size + 1, 8, none⟩ (.slice A8 d.type.res.length c8)).setCell ⟨w.heap.size + 1, 9, none⟩ (.slice A9 d.fields.length c9)) from (((((((((((Chg.refl (fun j => j = w.heap.size + 1) wz).setCell (p := ⟨w.heap.size + 1, 0, none⟩) (fun _ => rfl) (.int .i64 d.kind)).setCell (p := ⟨w.heap.size + 1, 1, none⟩) (fun _ => rfl) (.string d.name)).setCell (p := ⟨w.heap.size + 1, 2, none⟩) (fun _ => rfl) (.string d.of)).setCell (p := ⟨w.heap.size + 1, 3, none⟩) (fun _ => rfl) (.int .i64 d.value)).setCell (p := ⟨w.heap.size + 1, 4, none⟩) (fun _ => rfl) (.int .i64 d.type.kind)).setCell (p := ⟨w.heap.size + 1, 5, none⟩) (fun _ => rfl) (.string d.type.pkg)).setCell (p := ⟨w.heap.size + 1, 6, none⟩) (fun _ => rfl) (.string d.type.name)).setCell (p := ⟨w.heap.size + 1, 7, none⟩) (fun _ => rfl) (.slice A7 d.type.args.length c7)).setCell (p := ⟨w.heap.size + 1, 8, none⟩) (fun _ => rfl) (.slice A8 d.type.res.length c8)).setCell (p := ⟨w.heap.size + 1, 9, none⟩) (fun _ => rfl) (.slice A9 d.fields.length c9)))
    have HF := Lib.hid (show Below w.heap.size w ((((((((((wz.setCell ⟨w.heap.size + 1, 0, none⟩ (.int .i64 d.kind)).setCell ⟨w.heap.size + 1, 1, none⟩ (.string d.name)).setCell ⟨w.heap.size + 1, 2, none⟩ (.string d.of)).setCell ⟨w.heap.size + 1, 3, none⟩ (.int .i64 d.value)).setCell ⟨w.heap.size + 1, 4, none⟩ (.int .i64 d.type.kind)).setCell ⟨w.heap.size + 1, 5, none⟩ (.string d.type.pkg)).setCell ⟨w.heap.size + 1, 6, none⟩ (.string d.type.name)).setCell ⟨w.heap.size + 1, 7, none⟩ (.slice A7 d.type.args.length c7)).setCell ⟨w.heap.size + 1, 8, none⟩ (.slice A8 d.type.res.length c8)).setCell ⟨w.heap.size + 1, 9, none⟩ (.slice A9 d.fields.length c9)).drew from Below.chg HB2.out HSET.out.drew HB2.out.size (fun i hi => by omega))
    clear h0_ h1_ h2_ h3_ h4_ h5_ h6_ h7_ h8_ h9_ h10_
    refine wpT_one rfl (fun K hK => ?_)
    go_wp2_with fail
    refine hK _ _ HSET.out.drew ?_
    clear hK K
    apply wpT_get rfl
    · go_simp
    · intro wS hS
      go_simp
      try rfl
    intro K hK
    go_simp
    refine hK _ ?_
    clear hK K
    refine wpT_doneN ?_
    go_wp2_with fail
    have d0_ : ((((((((((wz.setCell ⟨w.heap.size + 1, 0, none⟩ (.int .i64 d.kind)).setCell ⟨w.heap.size + 1, 1, none⟩ (.string d.name)).setCell ⟨w.heap.size + 1, 2, none⟩ (.string d.of)).setCell ⟨w.heap.size + 1, 3, none⟩ (.int .i64 d.value)).setCell ⟨w.heap.size + 1, 4, none⟩ (.int .i64 d.type.kind)).setCell ⟨w.heap.size + 1, 5, none⟩ (.string d.type.pkg)).setCell ⟨w.heap.size + 1, 6, none⟩ (.string d.type.name)).setCell ⟨w.heap.size + 1, 7, none⟩ (.slice A7 d.type.args.length c7)).setCell ⟨w.heap.size + 1, 8, none⟩ (.slice A8 d.type.res.length c8)).setCell ⟨w.heap.size + 1, 9, none⟩ (.slice A9 d.fields.length c9)).drew.cell? ⟨w.heap.size + 1, 0, none⟩ = some (.int .i64 d.kind) := (cell_at HD.out 0).trans rfl
    have d1_ : ((((((((((wz.setCell ⟨w.heap.size + 1, 0, none⟩ (.int .i64 d.kind)).setCell ⟨w.heap.size + 1, 1, none⟩ (.string d.name)).setCell ⟨w.heap.size + 1, 2, none⟩ (.string d.of)).setCell ⟨w.heap.size + 1, 3, none⟩ (.int .i64 d.value)).setCell ⟨w.heap.size + 1, 4, none⟩ (.int .i64 d.type.kind)).setCell ⟨w.heap.size + 1, 5, none⟩ (.string d.type.pkg)).setCell ⟨w.heap.size + 1, 6, none⟩ (.string d.type.name)).setCell ⟨w.heap.size + 1, 7, none⟩ (.slice A7 d.type.args.length c7)).setCell ⟨w.heap.size + 1, 8, none⟩ (.slice A8 d.type.res.length c8)).setCell ⟨w.heap.size + 1, 9, none⟩ (.slice A9 d.fields.length c9)).drew.cell? ⟨w.heap.size + 1, 1, none⟩ = some (.string d.name) := (cell_at HD.out 1).trans rfl
    have d2_ : ((((((((((wz.setCell ⟨w.heap.size + 1, 0, none⟩ (.int .i64 d.kind)).setCell ⟨w.heap.size + 1, 1, none⟩ (.string d.name)).setCell ⟨w.heap.size + 1, 2, none⟩ (.string d.of)).setCell ⟨w.heap.size + 1, 3, none⟩ (.int .i64 d.value)).setCell ⟨w.heap.size + 1, 4, none⟩ (.int .i64 d.type.kind)).setCell ⟨w.heap.size + 1, 5, none⟩ (.string d.type.pkg)).setCell ⟨w.heap.size + 1, 6, none⟩ (.string d.type.name)).setCell ⟨w.heap.size + 1, 7, none⟩ (.slice A7 d.type.args.length c7)).setCell ⟨w.heap.size + 1, 8, none⟩ (.slice A8 d.type.res.length c8)).setCell ⟨w.heap.size + 1, 9, none⟩ (.slice A9 d.fields.length c9)).drew.cell? ⟨w.heap.size + 1, 2, none⟩ = some (.string d.of) := (cell_at HD.out 2).trans rfl
    have d3_ : ((((((((((wz.setCell ⟨w.heap.size + 1, 0, none⟩ (.int .i64 d.kind)).setCell ⟨w.heap.size + 1, 1, none⟩ (.string d.name)).setCell ⟨w.heap.size + 1, 2, none⟩ (.string d.of)).setCell ⟨w.heap.size + 1, 3, none⟩ (.int .i64 d.value)).setCell ⟨w.heap.size + 1, 4, none⟩ (.int .i64 d.type.kind)).setCell ⟨w.heap.size + 1, 5, none⟩ (.string d.type.pkg)).setCell ⟨w.heap.size + 1, 6, none⟩ (.string d.type.name)).setCell ⟨w.heap.size + 1, 7, none⟩ (.slice A7 d.type.args.length c7)).setCell ⟨w.heap.size + 1, 8, none⟩ (.slice A8 d.type.res.length c8)).setCell ⟨w.heap.size + 1, 9, none⟩ (.slice A9 d.fields.length c9)).drew.cell? ⟨w.heap.size + 1, 3, none⟩ = some (.int .i64 d.value) := (cell_at HD.out 3).trans rfl
    have d4_ : ((((((((((wz.setCell ⟨w.heap.size + 1, 0, none⟩ (.int .i64 d.kind)).setCell ⟨w.heap.size + 1, 1, none⟩ (.string d.name)).setCell ⟨w.heap.size + 1, 2, none⟩ (.string d.of)).setCell ⟨w.heap.size + 1, 3, none⟩ (.int .i64 d.value)).setCell ⟨w.heap.size + 1, 4, none⟩ (.int .i64 d.type.kind)).setCell ⟨w.heap.size + 1, 5, none⟩ (.string d.type.pkg)).setCell ⟨w.heap.size + 1, 6, none⟩ (.string d.type.name)).setCell ⟨w.heap.size + 1, 7, none⟩ (.slice A7 d.type.args.length c7)).setCell ⟨w.heap.size + 1, 8, none⟩ (.slice A8 d.type.res.length c8)).setCell ⟨w.heap.size + 1, 9, none⟩ (.slice A9 d.fields.length c9)).drew.cell? ⟨w.heap.size + 1, 4, none⟩ = some (.int .i64 d.type.kind) := (cell_at HD.out 4).trans rfl
    have d5_ : ((((((((((wz.setCell ⟨w.heap.size + 1, 0, none⟩ (.int .i64 d.kind)).setCell ⟨w.heap.size + 1, 1, none⟩ (.string d.name)).setCell ⟨w.heap.size + 1, 2, none⟩ (.string d.of)).setCell ⟨w.heap.size + 1, 3, none⟩ (.int .i64 d.value)).setCell ⟨w.heap.size + 1, 4, none⟩ (.int .i64 d.type.kind)).setCell ⟨w.heap.size + 1, 5, none⟩ (.string d.type.pkg)).setCell ⟨w.heap.size + 1, 6, none⟩ (.string d.type.name)).setCell ⟨w.heap.size + 1, 7, none⟩ (.slice A7 d.type.args.length c7)).setCell ⟨w.heap.size + 1, 8, none⟩ (.slice A8 d.type.res.length c8)).setCell ⟨w.heap.size + 1, 9, none⟩ (.slice A9 d.fields.length c9)).drew.cell? ⟨w.heap.size + 1, 5, none⟩ = some (.string d.type.pkg) := (cell_at HD.out 5).trans rfl
    have d6_ : ((((((((((wz.setCell ⟨w.heap.size + 1, 0, none⟩ (.int .i64 d.kind)).setCell ⟨w.heap.size + 1, 1, none⟩ (.string d.name)).setCell ⟨w.heap.size + 1, 2, none⟩ (.string d.of)).setCell ⟨w.heap.size + 1, 3, none⟩ (.int .i64 d.value)).setCell ⟨w.heap.size + 1, 4, none⟩ (.int .i64 d.type.kind)).setCell ⟨w.heap.size + 1, 5, none⟩ (.string d.type.pkg)).setCell ⟨w.heap.size + 1, 6, none⟩ (.string d.type.name)).setCell ⟨w.heap.size + 1, 7, none⟩ (.slice A7 d.type.args.length c7)).setCell ⟨w.heap.size + 1, 8, none⟩ (.slice A8 d.type.res.length c8)).setCell ⟨w.heap.size + 1, 9, none⟩ (.slice A9 d.fields.length c9)).drew.cell? ⟨w.heap.size + 1, 6, none⟩ = some (.string d.type.name) := (cell_at HD.out 6).trans rfl
    have d7_ : ((((((((((wz.setCell ⟨w.heap.size + 1, 0, none⟩ (.int .i64 d.kind)).setCell ⟨w.heap.size + 1, 1, none⟩ (.string d.name)).setCell ⟨w.heap.size + 1, 2, none⟩ (.string d.of)).setCell ⟨w.heap.size + 1, 3, none⟩ (.int .i64 d.value)).setCell ⟨w.heap.size + 1, 4, none⟩ (.int .i64 d.type.kind)).setCell ⟨w.heap.size + 1, 5, none⟩ (.string d.type.pkg)).setCell ⟨w.heap.size + 1, 6, none⟩ (.string d.type.name)).setCell ⟨w.heap.size + 1, 7, none⟩ (.slice A7 d.type.args.length c7)).setCell ⟨w.heap.size + 1, 8, none⟩ (.slice A8 d.type.res.length c8)).setCell ⟨w.heap.size + 1, 9, none⟩ (.slice A9 d.fields.length c9)).drew.cell? ⟨w.heap.size + 1, 7, none⟩ = some (.slice A7 d.type.args.length c7) := (cell_at HD.out 7).trans rfl
    have d8_ : ((((((((((wz.setCell ⟨w.heap.size + 1, 0, none⟩ (.int .i64 d.kind)).setCell ⟨w.heap.size + 1, 1, none⟩ (.string d.name)).setCell ⟨w.heap.size + 1, 2, none⟩ (.string d.of)).setCell ⟨w.heap.size + 1, 3, none⟩ (.int .i64 d.value)).setCell ⟨w.heap.size + 1, 4, none⟩ (.int .i64 d.type.kind)).setCell ⟨w.heap.size + 1, 5, none⟩ (.string d.type.pkg)).setCell ⟨w.heap.size + 1, 6, none⟩ (.string d.type.name)).setCell ⟨w.heap.size + 1, 7, none⟩ (.slice A7 d.type.args.length c7)).setCell ⟨w.heap.size + 1, 8, none⟩ (.slice A8 d.type.res.length c8)).setCell ⟨w.heap.size + 1, 9, none⟩ (.slice A9 d.fields.length c9)).drew.cell? ⟨w.heap.size + 1, 8, none⟩ = some (.slice A8 d.type.res.length c8) := (cell_at HD.out 8).trans rfl
    have d9_ : ((((((((((wz.setCell ⟨w.heap.size + 1, 0, none⟩ (.int .i64 d.kind)).setCell ⟨w.heap.size + 1, 1, none⟩ (.string d.name)).setCell ⟨w.heap.size + 1, 2, none⟩ (.string d.of)).setCell ⟨w.heap.size + 1, 3, none⟩ (.int .i64 d.value)).setCell ⟨w.heap.size + 1, 4, none⟩ (.int .i64 d.type.kind)).setCell ⟨w.heap.size + 1, 5, none⟩ (.string d.type.pkg)).setCell ⟨w.heap.size + 1, 6, none⟩ (.string d.type.name)).setCell ⟨w.heap.size + 1, 7, none⟩ (.slice A7 d.type.args.length c7)).setCell ⟨w.heap.size + 1, 8, none⟩ (.slice A8 d.type.res.length c8)).setCell ⟨w.heap.size + 1, 9, none⟩ (.slice A9 d.fields.length c9)).drew.cell? ⟨w.heap.size + 1, 9, none⟩ = some (.slice A9 d.fields.length c9) := (cell_at HD.out 9).trans rfl
    refine bodyPost_ret (v := .tuple #[.agg #[.int .i64 d.kind, .string d.name, .string d.of, .int .i64 d.value, .int .i64 d.type.kind, .string d.type.pkg, .string d.type.name, .slice A7 d.type.args.length c7, .slice A8 d.type.res.length c8, .slice A9 d.fields.length c9], .bool false]) (by simp [results, Try.results39, go_sem, d0_, d1_, d2_, d3_, d4_, d5_, d6_, d7_, d8_, d9_]) rfl ?_
    exact ⟨_, d, by rw [HX.out]; rfl, HV.out, fun d' h => (by rw [HX.out] at h; cases h; try rfl), HF.out⟩
end Go.Proofs.Ytiecbgclkdlpkaa
