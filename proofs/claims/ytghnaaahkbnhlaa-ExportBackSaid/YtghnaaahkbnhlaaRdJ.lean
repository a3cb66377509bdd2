/-
  The walks of bytes.Equal and bytes.HasPrefix at bytes that read, and of the closure that Decode defers. The conditions: the bytes read; the results lie in memory of the call's own.
-/
import Derived.Test.YtghnaaahkbnhlaaRdI
import Derived.Defers
import Derived.Recover
namespace Go.Proofs.Ytghnaaahkbnhlaa
open Go.RowKit Go.Lib
set_option linter.unusedVariables false
set_option linter.unusedSimpArgs false

theorem RdB.conv {w : World} {b o : Nat} {l : List UInt8} (h : RdB w (some ⟨b, o, none⟩) l) (c : Nat) : (convert 22 9 (.slice (some ⟨b, o, none⟩) l.length c)).run Try.prog w = .ok (.string ⟨l.toArray⟩) w :=
  conv_bytes 22 9 5 Try.underlying22 Try.underlying5 Try.underlying9 b o c l fun i x hx => by
    obtain ⟨hi, rfl⟩ := List.getElem?_eq_some_iff.1 hx
    obtain ⟨b', o', hA, hcell⟩ := h i hi
    simp only [Option.some.injEq, Addr.mk.injEq, and_true] at hA
    obtain ⟨rfl, rfl⟩ := hA
    exact hcell
set_option maxRecDepth 100000 in
set_option maxHeartbeats 400000 in
theorem bequal_any (w : World) (b1 o1 c1 b2 o2 c2 : Nat) (l1 l2 : List UInt8) (h1 : RdB w (some ⟨b1, o1, none⟩) l1) (h2 : RdB w (some ⟨b2, o2, none⟩) l2) :
    Calls Try.prog 68 #[.slice (some ⟨b1, o1, none⟩) l1.length c1, .slice (some ⟨b2, o2, none⟩) l2.length c2] w fun e w' => e = .returned (.bool (l1 == l2)) ∧ w = w' := by
  have k1 := h1.conv c1
  have k2 := h2.conv c2
  clear h1 h2
  go_enter Try.func68, Try.ntmps68
  go_wp2_with fail
  exact bodyPost_ret (results_tmp rfl _ _ _) rfl ⟨rfl, rfl⟩

set_option maxRecDepth 100000 in
set_option maxHeartbeats 400000 in
theorem bprefix_any (w : World) (b1 o1 c1 b2 c2 : Nat) (l m : List UInt8) (h1 : RdB w (some ⟨b1, o1, none⟩) l) (h2 : RdB w (some ⟨b2, 0, none⟩) m) (hc : l.length ≤ c1) (hm : m.length = 4) (hl : 4 ≤ l.length) (hn : l.length ≤ Reach) :
    Calls Try.prog 39 #[.slice (some ⟨b1, o1, none⟩) l.length c1, .slice (some ⟨b2, 0, none⟩) 4 c2] w fun e w' => e = .returned (.bool (l.take 4 == m)) ∧ w = w' := by
  have K := Lib.hid (bequal_any w b1 o1 c1 b2 0 c2 (l.take 4) m (h1.take 4) h2)
  have e : (l.take 4).length = 4 := by rw [List.length_take]; omega
  rw [e, hm] at K
  unfold Reach at hn
  have hg : decide (4 ≤ (l.length : Int)) = true := by simp; omega
  have hcap : ¬ (c1 : Int) < 4 := by omega
  clear h1 h2 e hm
  go_enter Try.func39, Try.ntmps39
  go_wp2_with fail
  refine K.out.mono ?_
  rintro e w' ⟨rfl, rfl⟩
  go_wp2_with fail
  exact bodyPost_ret (results_tmp rfl _ _ _) rfl ⟨rfl, rfl⟩

/-! ### The closure that Decode defers -/
/-- The result's cells as they are when it fails. -/
def Failed (w w' : World) (a b : Nat) : Prop := w' = (((((w.setCell ⟨a, 0, none⟩ (.string ⟨#[]⟩)).setCell ⟨a, 1, none⟩ (.slice none 0 0)).setCell ⟨a, 2, none⟩ (.slice none 0 0)).setCell ⟨a, 3, none⟩ (.slice none 0 0)).setCell ⟨b, 0, none⟩ (.int .i64 4))

set_option maxRecDepth 100000 in
set_option maxHeartbeats 400000 in
theorem caught (a b : Nat) (v0 v1 v2 v3 v4 : Value) (u : TypeId) (pv : Value) (w : World) (ha : w.heap[a]? = some (.cells #[v0, v1, v2, v3] 30 (0, 0))) (hb : w.heap[b]? = some (.cells #[v4] 32 (0, 0))) (hab : a ≠ b) :
    CallsD Try.prog 40 #[.pointer (some ⟨a, 0, none⟩), .pointer (some ⟨b, 0, none⟩)] (.panicking [{ v := .iface u pv, recovered := false }]) w fun e u' w' =>
      e = .returned (.tuple #[]) ∧ u' = .panicking [{ v := .iface u pv, recovered := true }] ∧ Failed w w' a b := by
  have f0 := free_at ha 0; have f1 := free_at ha 1; have f2 := free_at ha 2; have f3 := free_at ha 3; have f4 := free_at hb 0
  have c0 : w.cell? ⟨a, 0, none⟩ = some v0 := (cell_at ha 0).trans rfl
  have c1 : w.cell? ⟨a, 1, none⟩ = some v1 := (cell_at ha 1).trans rfl
  have c2 : w.cell? ⟨a, 2, none⟩ = some v2 := (cell_at ha 2).trans rfl
  have c3 : w.cell? ⟨a, 3, none⟩ = some v3 := (cell_at ha 3).trans rfl
  have c4 : w.cell? ⟨b, 0, none⟩ = some v4 := (cell_at hb 0).trans rfl
  clear ha hb
  refine callsD_of_wpS Try.func40 rfl fun c₀ cs hu => ?_
  apply wpS_seq
  apply wpS_region
  simp [wpOpsS, go_sem, recoverD, hu, Try.ntmps40, Exit.thenS]
  refine wpS_cond (t := true) (by simp [Act.eval, Array.replicate]) ?_
  simp only [if_true]
  refine wpS_of_wp ?_
  go_wp2_with fail
  simp [bodyPostS, results, Try.results40]
  exact rfl
set_option maxRecDepth 100000 in
set_option maxHeartbeats 400000 in
theorem idle (a b : Nat) (w : World) :
    CallsD Try.prog 40 #[.pointer (some ⟨a, 0, none⟩), .pointer (some ⟨b, 0, none⟩)] .returning w fun e u' w' => e = .returned (.tuple #[]) ∧ u' = .returning ∧ w' = w := by
  refine callsD_of_wpS Try.func40 rfl fun c₀ cs hu => ?_
  apply wpS_seq
  apply wpS_region
  simp [wpOpsS, go_sem, recoverD, hu, Try.ntmps40, Exit.thenS]
  refine wpS_cond (t := false) (by simp [Act.eval, Array.replicate]) ?_
  simp only [Bool.false_eq_true, if_false]
  refine wpS_of_wp (wp_skip ?_)
  cases c₀
  simp_all [bodyPostS, results, Try.results40]
end Go.Proofs.Ytghnaaahkbnhlaa
