/-
  The walks of both sums over bytes: they are one. The condition: the bytes read.
-/
import Derived.Test.YtghnaaahkbnhlaaFits
namespace Go.Proofs.Ytghnaaahkbnhlaa
open Go.RowKit
set_option linter.unusedVariables false

/-- Bytes that read from an address on. -/
def RdB (w : World) (A : Option Addr) (l : List UInt8) : Prop := ∀ k (hk : k < l.length), ∃ b o, A = some ⟨b, o, none⟩ ∧ w.cell? ⟨b, o + k, none⟩ = some (.int .u8 l[k].toNat)
theorem RdB.sub {w w' : World} (h : Sub w w') {A : Option Addr} {l : List UInt8} (q : RdB w A l) : RdB w' A l := fun k hk => by
  obtain ⟨b, o, hA, hc⟩ := q k hk
  exact ⟨b, o, hA, h _ _ hc⟩

/-- One step of the sum, on numbers of 64 bits. -/
def fnvS (h : Int) (b : UInt8) : Int := IntKind.u64.wrap (bits BinOp.xor IntKind.u64 h (b.toNat : Int) * 1099511628211)
def fnvU (l : List UInt8) : Int := l.foldl fnvS 14695981039346656037
def fnv (l : List UInt8) : Int := wrap64 (fnvU l)
theorem fnvU_take (l : List UInt8) (k : Nat) (hk : k < l.length) : fnvU (l.take (k + 1)) = fnvS (fnvU (l.take k)) l[k] := by
  unfold fnvU
  rw [List.take_succ_eq_append_getElem hk, List.foldl_append]
  rfl

set_option maxRecDepth 100000 in
set_option maxHeartbeats 400000 in
theorem sum_any (w : World) (l : List UInt8) (A : Option Addr) (c : Nat) (hn : l.length ≤ Reach) (h : RdB w A l) :
    Calls Try.prog 10 #[.slice A l.length c] w fun e w' => e = .returned (.int .i64 (fnv l)) ∧ w = w' := by
  unfold Reach at hn
  have H := Lib.hid h; clear h
  go_enter Try.func10, Try.ntmps10
  go_wp2_with fail
  go_loop [3, 8] (fun s i => ∃ k : Nat, k ≤ l.length ∧ i = .int .i64 k ∧ s = .int .u64 (fnvU (l.take k))) (fun _ i => l.length - (intOf i).toNat)
  case atStart => exact ⟨0, Nat.zero_le _, rfl, rfl⟩
  case round =>
    obtain ⟨k, hk, rfl, rfl⟩ := hrel
    by_cases hlt : k < l.length
    · obtain ⟨b, o, hA, hc⟩ := H.out k hlt
      subst hA
      have HS := Lib.hid (fnvU_take l k hlt)
      have hb := l[k].toNat_lt
      go_wp2_with fail
      go_round
      case rel => exact ⟨k + 1, by omega, by go_num, by rw [HS.out]; rfl⟩
      case measure => simp [intOf]; omega
    · have he : l.take k = l := List.take_of_length_le (by omega)
      have HE := Lib.hid he; clear he
      go_wp2_with fail
      refine bodyPost_ret (results_tmp rfl _ _ _) rfl ⟨?_, rfl⟩
      rw [HE.out]; rfl

set_option maxRecDepth 100000 in
set_option maxHeartbeats 400000 in
theorem rsum_any (w : World) (l : List UInt8) (A : Option Addr) (c : Nat) (hn : l.length ≤ Reach) (h : RdB w A l) :
    Calls Try.prog 11 #[.slice A l.length c] w fun e w' => e = .returned (.int .i64 (fnv l)) ∧ w = w' := by
  unfold Reach at hn
  have H := Lib.hid h; clear h
  go_enter Try.func11, Try.ntmps11
  go_wp2_with fail
  go_loop [3, 4] (fun s i => ∃ k : Nat, k ≤ l.length ∧ i = .int .i64 k ∧ s = .int .u64 (fnvU (l.take k))) (fun _ i => l.length - (intOf i).toNat)
  case atStart => exact ⟨0, Nat.zero_le _, rfl, rfl⟩
  case round =>
    obtain ⟨k, hk, rfl, rfl⟩ := hrel
    by_cases hlt : k < l.length
    · obtain ⟨b, o, hA, hc⟩ := H.out k hlt
      subst hA
      have HS := Lib.hid (fnvU_take l k hlt)
      have hb := l[k].toNat_lt
      go_wp2_with fail
      go_round
      case rel => exact ⟨k + 1, by omega, by go_num, by rw [HS.out]; rfl⟩
      case measure => simp [intOf]; omega
    · have he : l.take k = l := List.take_of_length_le (by omega)
      have HE := Lib.hid he; clear he
      go_wp2_with fail
      refine bodyPost_ret (results_tmp rfl _ _ _) rfl ⟨?_, rfl⟩
      rw [HE.out]; rfl
end Go.Proofs.Ytghnaaahkbnhlaa
