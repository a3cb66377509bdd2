/-
  Numbers and bytes that came in, opened. No condition.
-/
import Derived.Test.YtghnaaahkbnhlaaOpen
import Derived.Test.YtghnaaahkbnhlaaSums
namespace Go.Proofs.Ytghnaaahkbnhlaa
open Go.RowKit Go.ChangeShapes Go.WideShapes Go.ChangeAt
set_option linter.unusedVariables false

/-- Whole numbers that fit a byte, as bytes. -/
theorem bytes_of_ints (zs : List Int) (h : ∀ n ∈ zs, (Lit.int .u8 n).wf = true) : ∃ l : List UInt8, l.length = zs.length ∧ ∀ k (hk : k < l.length), zs.getD k 0 = (l[k].toNat : Int) := by
  refine ⟨zs.map fun n => UInt8.ofNat n.toNat, by simp, fun k hk => ?_⟩
  have hk' : k < zs.length := by simpa using hk
  have hw := h zs[k] (List.getElem_mem hk')
  have hb : 0 ≤ zs[k] ∧ zs[k] ≤ 255 := by simpa [Lit.wf, IntKind.min, IntKind.max, IntKind.signed, IntKind.bits] using hw
  simp only [List.getElem_map, List.getD_eq_getElem?_getD, List.getElem?_eq_getElem hk', Option.getD_some, UInt8.toNat_ofNat']
  omega

set_option maxRecDepth 100000 in
/-- A slice of bytes that came in. -/
theorem open_bytes {H : Type} {enc : TypeId × Value → H} {W : World} {base : Nat} {v : Value} {d : DataW H} {p : List MemPlace} (hv : Value.okWide Try.prog W .any base 22 v)
    (h0 : DataW.Trod enc Try.prog W 0 (fun _ => true) true 22 v d p) : ∃ (A : Option Addr) (l : List UInt8) (c : Nat), v = .slice A l.length c ∧ l.length ≤ maxLen ∧ l.length ≤ c ∧ RdB W A l := by
  obtain ⟨a0, len0, cap0, rfl⟩ := okWide_slice Try.underlying22 hv
  obtain ⟨fuel, hf⟩ := h0
  rcases open_ints Try.underlying22 Try.underlying5 (by kernel_rfl) hf with ⟨hcs, _⟩ | ⟨x, n, c, zs, hcs, _, hl, hm, hz, _, hcell, hwz⟩
  · simp [Value.cells] at hcs
    obtain ⟨rfl, rfl, rfl⟩ := hcs
    exact ⟨none, [], 0, rfl, Nat.zero_le _, Nat.le_refl _, fun k hk => absurd hk (Nat.not_lt_zero _)⟩
  · simp [Value.cells] at hcs
    obtain ⟨rfl, rfl, rfl⟩ := hcs
    obtain ⟨l, hll, hlk⟩ := bytes_of_ints zs hwz
    have hzl : zs.length = cap0 := by simpa using hz
    have hlen : (l.take len0).length = len0 := by rw [List.length_take, hll, hzl]; omega
    refine ⟨some x, l.take len0, cap0, by rw [hlen], by rw [hlen]; omega, by rw [hlen]; omega, fun k hk => ?_⟩
    rw [hlen] at hk
    have hc := hcell k (by omega)
    have hs : x.spot = none := by
      have hc0 := hcell 0 (by omega)
      have e0 : x.add 0 = x := by simp [Addr.add]
      rw [e0] at hc0
      exact spot_none hc0
    obtain ⟨b, o, sp⟩ := x
    simp only at hs
    subst hs
    refine ⟨b, o, rfl, ?_⟩
    have ha : (⟨b, o, none⟩ : Addr).add k = ⟨b, o + k, none⟩ := by unfold Addr.add; split <;> simp_all
    rw [ha] at hc
    rw [hc, List.getElem_take, hlk k (by omega)]
set_option maxRecDepth 100000 in
theorem open_i64 {H : Type} {enc : TypeId × Value → H} {W : World} {base : Nat} {v : Value} {d : DataW H} {p : List MemPlace} (hv : Value.okWide Try.prog W .any base 3 v)
    (h0 : DataW.Trod enc Try.prog W 0 (fun _ => true) true 3 v d p) : ∃ n : Int, v = .int .i64 n ∧ In64 n := by
  obtain ⟨n, rfl, _, _, hw⟩ := open_int Try.underlying3 hv h0
  simp [Lit.wf, IntKind.min, IntKind.max, IntKind.signed, IntKind.bits] at hw
  exact ⟨n, rfl, by unfold In64; omega⟩
set_option maxRecDepth 100000 in
theorem open_u8 {H : Type} {enc : TypeId × Value → H} {W : World} {base : Nat} {v : Value} {d : DataW H} {p : List MemPlace} (hv : Value.okWide Try.prog W .any base 5 v)
    (h0 : DataW.Trod enc Try.prog W 0 (fun _ => true) true 5 v d p) : ∃ y : UInt8, v = .int .u8 y.toNat := by
  obtain ⟨n, rfl, _, _, hw⟩ := open_int Try.underlying5 hv h0
  simp [Lit.wf, IntKind.min, IntKind.max, IntKind.signed, IntKind.bits] at hw
  refine ⟨UInt8.ofNat n.toNat, ?_⟩
  have : ((UInt8.ofNat n.toNat).toNat : Int) = n := by rw [UInt8.toNat_ofNat']; omega
  rw [this]
end Go.Proofs.Ytghnaaahkbnhlaa
