/-
  The walk of the statements' awake: the document's examples. No condition.
-/
import Derived.Test.YtghnaaahkbnhlaaEnc
namespace Go.Proofs.Ytghnaaahkbnhlaa
open Go.RowKit
set_option linter.unusedVariables false

def unA : Un := ⟨⟨#[97]⟩, [], [], []⟩
theorem encodeP_unA : (encodeP unA).2 = 0 ∧ (encodeP unA).1.length = 45 := by
  have hs : shalU unA = true := rfl
  have hl : (encU unA).length = 37 := by simp [encU, unA, txt, le8_length, s2l, encImpL, encDclL, encFnL]
  have hz : encodeP unA = (encU unA ++ le8 (fnv (encU unA)), 0) := by rw [encodeP, hs, if_neg (by simp), if_pos (by omega)]
  rw [hz]
  simp [hl, le8_length]
theorem SL.nil (w : World) (sz : Nat) : SL w sz [] 0 none 0 := ⟨rfl, Nat.le_refl _, Nat.zero_le _, by simp only [Elems]⟩
theorem vals_unA (w : World) : Vals w unA.d [.string ⟨#[97]⟩, .slice none 0 0, .slice none 0 0, .slice none 0 0] :=
  Un.shut (t := unA) (by decide) (SL.nil w _) (SL.nil w _) (SL.nil w _)
theorem encode_a (w : World) : Calls Try.prog 13 #[.agg #[.string ⟨#[97]⟩, .slice none 0 0, .slice none 0 0, .slice none 0 0]] w
    fun e w' => ∃ A c, e = .returned (.tuple #[.slice A 45 c, .int .i64 0]) ∧ Below w.heap.size w w' :=
  (encode_any w unA _ (vals_unA w)).mono fun e w' ⟨A, c, he, _, hb⟩ => ⟨A, c, by rw [he, encodeP_unA.1, encodeP_unA.2], hb⟩
theorem fnv_nil : fnv [] = -3750763034362895579 := by
  show wrap64 14695981039346656037 = _
  unfold wrap64
  omega
theorem sum_nil (w : World) : Calls Try.prog 10 #[.slice none 0 0] w fun e w' => e = .returned (.int .i64 (-3750763034362895579)) ∧ w = w' :=
  (sum_any w [] none 0 (Nat.zero_le _) (fun k hk => absurd hk (Nat.not_lt_zero _))).mono fun e w' ⟨he, hw⟩ => ⟨by rw [he, fnv_nil], hw⟩

set_option maxRecDepth 100000 in
set_option maxHeartbeats 800000 in
theorem awake_any (w : World) : Calls Try.prog 9 #[] w (Ans w (.bool true)) := by
  go_enter Try.func9, Try.ntmps9
  go_wp2_with fail
  refine (encode_a _).mono ?_
  rintro e w1 ⟨A, c, rfl, hb⟩
  have HB := Lib.hid hb; clear hb
  go_wp2_with (first | (go_at_call 14; go_in) | (go_at_call 10; refine (sum_nil _).mono ?_; rintro e w2 ⟨rfl, rfl⟩))
  exact bodyPost_ret (results_tmp rfl _ _ _) rfl ⟨rfl, HB.out⟩
end Go.Proofs.Ytghnaaahkbnhlaa
