/-
  What Decode reads is what Encode lays: read back, refused where a byte is turned, where bytes are cut, where there are more. No condition beyond the sizes that memory bears.
-/
import Derived.Test.YtghnaaahkbnhlaaDec
import Derived.Laws.Bits64
namespace Go.Proofs.Ytghnaaahkbnhlaa
open Go.RowKit
set_option linter.unusedVariables false
set_option linter.unusedSimpArgs false

theorem encodeP_ok {u : Un} (h : (encodeP u).2 = 0) : shalU u = true ∧ (encU u).length + 8 ≤ 262144 ∧ (encodeP u).1 = encU u ++ le8 (fnv (encU u)) := by
  unfold encodeP at *
  split at h
  · simp at h
  · rename_i a1
    split at h
    · rename_i a2
      rw [if_neg a1, if_pos a2]
      exact ⟨by simpa using a1, a2, rfl⟩
    · simp at h
theorem encodeP_two {u : Un} : (encodeP u).2 = 0 ∨ ((encodeP u).2 = 2 ∨ (encodeP u).2 = 3) ∧ (encodeP u).1 = [] := by
  unfold encodeP
  split
  · exact .inr ⟨.inr rfl, rfl⟩
  · split
    · exact .inl rfl
    · exact .inr ⟨.inl rfl, rfl⟩
theorem fnv_in (l : List UInt8) : In64 (fnv l) := in64_wrap64 _

/-- Read back. -/
theorem decode_encode {u : Un} (hu : okUn u) (h : (encodeP u).2 = 0) : decodeP (encodeP u).1 = some u := by
  obtain ⟨h1, h2, h3⟩ := encodeP_ok h
  rw [h3]
  have hl : (encU u ++ le8 (fnv (encU u))).length - 8 = (encU u).length := by rw [List.length_append, le8_length]; omega
  have hlen : 4 ≤ (encU u).length := by rw [encU_B, List.length_append]; simp
  unfold decodeP
  rw [if_neg (by rw [List.length_append, le8_length]; omega), hl, List.take_left' rfl, List.drop_left' rfl]
  rw [unle_le8, wrap64_u64 (fnv_in _)]
  have e4 : (encU u ++ le8 (fnv (encU u))).take 4 = [77, 85, 49, 10] := by rw [encU_B, List.append_assoc]; rfl
  have e5 : (encU u).drop 4 = encB u ++ [] := by rw [encU_B, List.append_nil]; rfl
  rw [e4, if_neg (by simp), if_neg (by simp), e5, bodyP_full u [] ⟨hu, h1⟩]
/-- What is read has these bytes. -/
theorem encode_decode {b : List UInt8} {u : Un} (h : decodeP b = some u) : okUn u ∧ encodeP u = (b, 0) := by
  unfold decodeP at h
  split at h
  · cases h
  · rename_i h0
    split at h
    · cases h
    · rename_i h1
      split at h
      · cases h
      · rename_i h2
        split at h
        · rename_i u' hb
          injection h with h
          subst h
          obtain ⟨k1, k2, k3⟩ := bodyP_sound _ _ _ (by rw [List.length_drop, List.length_take]; omega) hb
          rw [List.append_nil] at k1
          have hm : b.take 4 = [77, 85, 49, 10] := by simpa using h1
          have eU : encU u' = b.take (b.length - 8) := by
            rw [encU_B, ← k1, ← hm]
            have := List.take_append_drop 4 (b.take (b.length - 8))
            rwa [List.take_take, Nat.min_eq_left (by omega)] at this
          have eS : le8 (fnv (b.take (b.length - 8))) = b.drop (b.length - 8) := by
            have hf : wrap64 (unle (b.drop (b.length - 8)) : Nat) = fnv (b.take (b.length - 8)) := by simpa using h2
            rw [← hf, le8_unle _ (by rw [List.length_drop]; omega)]
          refine ⟨k2, ?_⟩
          unfold encodeP
          rw [if_neg (by rw [k3]; simp), eU, if_pos (by rw [List.length_take]; omega), eS, List.take_append_drop]
        · cases h

/-- One behind the other: nothing stands behind. -/
theorem no_more {b b' s : List UInt8} {u u' : Un} (h : decodeP b = some u) (h' : decodeP b' = some u') (e : b' = b ++ s) : s = [] := by
  obtain ⟨k1, k2⟩ := encode_decode h
  obtain ⟨q1, q2⟩ := encode_decode h'
  have a := encodeP_ok (u := u) (by rw [k2])
  have a' := encodeP_ok (u := u') (by rw [q2])
  rw [k2] at a
  rw [q2] at a'
  have e1 : encU u ++ (le8 (fnv (encU u)) ++ s) = encU u' ++ le8 (fnv (encU u')) := by
    rw [← List.append_assoc, ← a.2.2, ← a'.2.2, e]
  have e2 := congrArg List.length (encU_app k1 q1 e1).2
  rw [List.length_append, le8_length, le8_length] at e2
  exact List.eq_nil_of_length_eq_zero (by omega)
theorem decode_cut {b : List UInt8} {u : Un} (h : decodeP b = some u) (k : Nat) (hk : k < b.length) : decodeP (b.take k) = none := by
  cases hd : decodeP (b.take k) with
  | none => rfl
  | some u' =>
    have := congrArg List.length (no_more hd h (List.take_append_drop k b).symm)
    rw [List.length_drop] at this
    simp at this
    omega
theorem decode_more {b : List UInt8} {u : Un} (h : decodeP b = some u) (s : List UInt8) (hs : s ≠ []) : decodeP (b ++ s) = none := by
  cases hd : decodeP (b ++ s) with
  | none => rfl
  | some u' => exact absurd (no_more h hd rfl) hs

/-! ### The sum tells two texts apart that differ in one byte -/
theorem fnvS_nat (H : Nat) (h : H < 18446744073709551616) (b : UInt8) : fnvS (H : Int) b = (((H ^^^ b.toNat) * 1099511628211 % 18446744073709551616 : Nat) : Int) := by
  have hb := b.toNat_lt
  unfold fnvS
  rw [bits_xor_u64_nat H b.toNat h (by omega), Go.IntKind.wrap_u64]
  generalize H ^^^ b.toNat = X
  omega
def fnvN (H : Nat) (b : UInt8) : Nat := (H ^^^ b.toNat) * 1099511628211 % 18446744073709551616
theorem fnvN_lt (H : Nat) (b : UInt8) : fnvN H b < 18446744073709551616 := Nat.mod_lt _ (by decide)
theorem fold_nat : ∀ (l : List UInt8) (H : Nat), H < 18446744073709551616 → l.foldl fnvS (H : Int) = ((l.foldl fnvN H : Nat) : Int) ∧ l.foldl fnvN H < 18446744073709551616
  | [], H, h => ⟨rfl, h⟩
  | b :: r, H, h => by
    rw [List.foldl_cons, List.foldl_cons, fnvS_nat H h b]
    exact fold_nat r _ (fnvN_lt H b)
theorem xor_lt (H : Nat) (h : H < 18446744073709551616) (b : UInt8) : H ^^^ b.toNat < 18446744073709551616 := by
  have hb := b.toNat_lt
  exact Nat.xor_lt_two_pow (n := 64) h (by omega)
theorem mul_inj {x y : Nat} (hx : x < 18446744073709551616) (hy : y < 18446744073709551616) (h : x * 1099511628211 % 18446744073709551616 = y * 1099511628211 % 18446744073709551616) : x = y := by
  have key : ∀ z : Nat, z < 18446744073709551616 → (z * 1099511628211 % 18446744073709551616) * 14886173955864302971 % 18446744073709551616 = z := by
    intro z hz
    rw [Nat.mod_mul_mod, Nat.mul_assoc, show 1099511628211 * 14886173955864302971 = 18446744073709551616 * 887285111055 + 1 by decide, Nat.mul_add, Nat.mul_one]
    rw [show z * (18446744073709551616 * 887285111055) = 18446744073709551616 * (z * 887285111055) by rw [← Nat.mul_assoc, Nat.mul_comm z, Nat.mul_assoc]]
    rw [Nat.mul_add_mod, Nat.mod_eq_of_lt hz]
  rw [← key x hx, ← key y hy, h]
theorem xor_left {a b c : Nat} (h : a ^^^ c = b ^^^ c) : a = b := by
  have := congrArg (· ^^^ c) h
  simpa [Nat.xor_assoc] using this
theorem xor_right {a b c : Nat} (h : c ^^^ a = c ^^^ b) : a = b := by
  rw [Nat.xor_comm c, Nat.xor_comm c] at h
  exact xor_left h
theorem fnvN_inj {H K : Nat} (hH : H < 18446744073709551616) (hK : K < 18446744073709551616) {b : UInt8} (h : fnvN H b = fnvN K b) : H = K :=
  xor_left (mul_inj (xor_lt H hH b) (xor_lt K hK b) h)
theorem fnvN_byte {H : Nat} (hH : H < 18446744073709551616) {b c : UInt8} (h : fnvN H b = fnvN H c) : b = c :=
  UInt8.toNat_inj.1 (xor_right (mul_inj (xor_lt H hH b) (xor_lt H hH c) h))
theorem fold_inj : ∀ (l : List UInt8) (H K : Nat), H < 18446744073709551616 → K < 18446744073709551616 → l.foldl fnvN H = l.foldl fnvN K → H = K
  | [], _, _, _, _, h => h
  | b :: r, H, K, hH, hK, h => fnvN_inj hH hK (fold_inj r _ _ (fnvN_lt H b) (fnvN_lt K b) h)
theorem fold_set : ∀ (l : List UInt8) (H k : Nat) (x : UInt8), H < 18446744073709551616 → k < l.length → (l.set k x).foldl fnvN H = l.foldl fnvN H → l[k]? = some x
  | [], _, _, _, _, hk, _ => absurd hk (by simp)
  | b :: r, H, 0, x, hH, _, h => by
    simp only [List.set_cons_zero, List.foldl_cons] at h
    have := fnvN_byte hH (fold_inj r _ _ (fnvN_lt H x) (fnvN_lt H b) h)
    simp [this]
  | b :: r, H, k + 1, x, hH, hk, h => by
    simp only [List.set_cons_succ, List.foldl_cons] at h
    have := fold_set r _ k x (fnvN_lt H b) (by simpa using hk) h
    simpa using this
theorem fnv_set {l : List UInt8} {k : Nat} {x : UInt8} (hk : k < l.length) (h : fnv (l.set k x) = fnv l) : l[k]? = some x := by
  have f1 : l.foldl fnvS (14695981039346656037 : Int) = ((l.foldl fnvN 14695981039346656037 : Nat) : Int) ∧ l.foldl fnvN 14695981039346656037 < 18446744073709551616 := fold_nat l 14695981039346656037 (by decide)
  have f2 : (l.set k x).foldl fnvS (14695981039346656037 : Int) = (((l.set k x).foldl fnvN 14695981039346656037 : Nat) : Int) ∧ (l.set k x).foldl fnvN 14695981039346656037 < 18446744073709551616 := fold_nat (l.set k x) 14695981039346656037 (by decide)
  refine fold_set l 14695981039346656037 k x (by decide) hk ?_
  unfold fnv fnvU at h
  rw [f1.1, f2.1] at h
  have g1 := f1.2; have g2 := f2.2
  generalize List.foldl fnvN 14695981039346656037 l = a at *
  generalize List.foldl fnvN 14695981039346656037 (l.set k x) = b at *
  unfold wrap64 at h
  omega
/-- One byte is turned. -/
theorem decode_turned {b : List UInt8} {u : Un} (h : decodeP b = some u) {k : Nat} (hk : k < b.length) {x : UInt8} (hx : b[k]? ≠ some x) : decodeP (b.set k x) = none := by
  cases hd : decodeP (b.set k x) with
  | none => rfl
  | some u' =>
    exfalso
    obtain ⟨k1, k2⟩ := encode_decode h
    obtain ⟨q1, q2⟩ := encode_decode hd
    have a := (encodeP_ok (u := u) (by rw [k2])).2.2
    have a' := (encodeP_ok (u := u') (by rw [q2])).2.2
    rw [k2] at a
    rw [q2] at a'
    simp only at a a'
    have hl : (encU u').length = (encU u).length := by
      have e1 := congrArg List.length a
      have e2 := congrArg List.length a'
      rw [List.length_append, le8_length] at e1 e2
      rw [List.length_set] at e2
      omega
    by_cases hlt : k < (encU u).length
    · rw [a, List.set_append_left _ _ hlt] at a'
      obtain ⟨e1, e2⟩ := List.append_inj a' (by rw [List.length_set, hl])
      have e3 := le8_inj (fnv_in _) (fnv_in _) e2
      rw [← e1] at e3
      have e4 := fnv_set hlt e3.symm
      rw [a, List.getElem?_append_left hlt] at hx
      exact hx e4
    · rw [a, List.set_append_right _ _ (by omega)] at a'
      obtain ⟨e1, e2⟩ := List.append_inj a' hl.symm
      rw [← e1] at e2
      have hk8 : k - (encU u).length < (le8 (fnv (encU u))).length := by
        have e1 := congrArg List.length a
        rw [List.length_append] at e1
        omega
      have e5 : ((le8 (fnv (encU u))).set (k - (encU u).length) x)[k - (encU u).length]? = some x := by
        rw [List.getElem?_set_self hk8]
      rw [e2] at e5
      rw [a, List.getElem?_append_right (by omega)] at hx
      exact hx e5
end Go.Proofs.Ytghnaaahkbnhlaa
