/-
  The walk of a stable sort of fields by their names. The conditions: the row is the call's own; it is not too long.
-/
import Derived.Test.YtiecbgclkdlpkaaSrtN
namespace Go.Proofs.Ytiecbgclkdlpkaa
open Go.RowKit
set_option linter.unusedVariables false
set_option linter.unusedSimpArgs false
attribute [local irreducible] wpStill wpOrd wpT

/-- Block after block of d is in order and holds its own. -/
def Blk (key : Nat → ByteArray) (q : Nat → Nat) (n d : Nat) : Prop := ∀ k, Own key q (k * d) (min (k * d + d) n)
theorem Own.none {key : Nat → ByteArray} {q : Nat → Nat} {a b : Nat} (h : b ≤ a) : Own key q a b := ⟨Sorted.short (by omega), fun x h1 h2 => by omega⟩
theorem Own.at {key : Nat → ByteArray} {q : Nat → Nat} {a b a' b' : Nat} (h : Own key q a b) (ha : a = a') (hb : b = b') : Own key q a' b' := by subst ha hb; exact h
/-- While blocks of d are made: those ahead of A are, the rest is as it was. -/
structure Mk1 (key : Nat → ByteArray) (q : Nat → Nat) (n d j A : Nat) : Prop where
  at_ : A = j * d
  le : A ≤ n
  done : ∀ k, k < j → Own key q (k * d) (k * d + d)
  rest : ∀ x, A ≤ x → q x = x
theorem Mk1.next {key : Nat → ByteArray} {q r : Nat → Nat} {n d j A B : Nat} (h : Mk1 key q n d j A) (hB : B = A + d) (hn : B ≤ n) (t : Turn A B q r) (o : Sorted key r A B) : Mk1 key r n d (j + 1) B := by
  have e := h.at_
  refine ⟨by rw [Nat.add_mul]; omega, hn, fun k hk => ?_, fun x hx => by rw [t.out (.inr hx)]; exact h.rest x (by omega)⟩
  by_cases c : k = j
  · subst c
    have : Own key r A B := Own.start (fun x h1 h2 => h.rest x h1) t o
    exact this.at e (by omega)
  · have hkj : k * d + d ≤ A := by
      have := Nat.mul_le_mul_right d (show k + 1 ≤ j by omega)
      rw [Nat.add_mul] at this; omega
    exact (h.done k (by omega)).turn t (.inr hkj)
theorem Mk1.last {key : Nat → ByteArray} {q r : Nat → Nat} {n d j A : Nat} (h : Mk1 key q n d j A) (hn : n < A + d) (t : Turn A n q r) (o : Sorted key r A n) : Blk key r n d := by
  have e := h.at_
  intro k
  rcases Nat.lt_trichotomy k j with c | c | c
  · have hkj : k * d + d ≤ A := by
      have := Nat.mul_le_mul_right d (show k + 1 ≤ j by omega)
      rw [Nat.add_mul] at this; omega
    exact ((h.done k c).turn t (.inr hkj)).at rfl (by have := h.le; omega)
  · subst c
    have : Own key r A n := Own.start (fun x h1 h2 => h.rest x h1) t o
    exact this.at e (by omega)
  · have hkj : A + d ≤ k * d := by
      have := Nat.mul_le_mul_right d (show j + 1 ≤ k by omega)
      rw [Nat.add_mul] at this; omega
    exact Own.none (by omega)
/-- While blocks of d are merged by twos. -/
structure Mk2 (key : Nat → ByteArray) (q : Nat → Nat) (n d j A : Nat) : Prop where
  at_ : A = j * (2 * d)
  le : A ≤ n
  done : ∀ k, k < j → Own key q (k * (2 * d)) (k * (2 * d) + 2 * d)
  rest : ∀ k, A ≤ k * d → Own key q (k * d) (min (k * d + d) n)
theorem Mk2.start {key : Nat → ByteArray} {q : Nat → Nat} {n d : Nat} (h : Blk key q n d) : Mk2 key q n d 0 0 := ⟨by simp, Nat.zero_le _, fun k hk => absurd hk (Nat.not_lt_zero _), fun k _ => h k⟩
theorem Mk2.pair {key : Nat → ByteArray} {q : Nat → Nat} {n d j A : Nat} (h : Mk2 key q n d j A) : Own key q A (min (A + d) n) ∧ Own key q (A + d) (min (A + 2 * d) n) := by
  have e := h.at_
  have e1 : j * (2 * d) = (2 * j) * d := by rw [← Nat.mul_assoc, Nat.mul_comm j 2]
  have e2 : (2 * j + 1) * d = A + d := by rw [Nat.add_mul, Nat.one_mul, e, e1]
  have h1 := h.rest (2 * j) (by omega)
  have h2 := h.rest (2 * j + 1) (by omega)
  refine ⟨h1.at (by omega) (by omega), h2.at e2 (by omega)⟩
theorem Mk2.next {key : Nat → ByteArray} {q r : Nat → Nat} {n d j A B : Nat} (h : Mk2 key q n d j A) (hB : B = A + 2 * d) (hn : B ≤ n) (t : Turn A B q r) (o : Sorted key r A B) : Mk2 key r n d (j + 1) B := by
  have e := h.at_
  obtain ⟨h1, h2⟩ := h.pair
  refine ⟨by rw [Nat.add_mul]; omega, hn, fun k hk => ?_, fun k hk => (h.rest k (by omega)).turn t (.inl hk)⟩
  by_cases c : k = j
  · subst c
    have : Own key r A B := (h1.at rfl (show _ = A + d by omega)).merged (h2.at rfl (show _ = B by omega)) (by omega) (by omega) t o
    exact this.at e (by omega)
  · have hkj : k * (2 * d) + 2 * d ≤ A := by
      have := Nat.mul_le_mul_right (2 * d) (show k + 1 ≤ j by omega)
      rw [Nat.add_mul] at this; omega
    exact (h.done k (by omega)).turn t (.inr hkj)
theorem Mk2.last {key : Nat → ByteArray} {q r : Nat → Nat} {n d j A : Nat} (h : Mk2 key q n d j A) (hn : n < A + 2 * d) (t : Turn A n q r) (o : Own key r A n) : Blk key r n (2 * d) := by
  have e := h.at_
  intro k
  rcases Nat.lt_trichotomy k j with c | c | c
  · have hkj : k * (2 * d) + 2 * d ≤ A := by
      have := Nat.mul_le_mul_right (2 * d) (show k + 1 ≤ j by omega)
      rw [Nat.add_mul] at this; omega
    exact ((h.done k c).turn t (.inr hkj)).at rfl (by have := h.le; omega)
  · subst c; exact o.at e (by omega)
  · have hkj : A + 2 * d ≤ k * (2 * d) := by
      have := Nat.mul_le_mul_right (2 * d) (show j + 1 ≤ k by omega)
      rw [Nat.add_mul] at this; omega
    exact Own.none (by omega)
/-- The rest of a row whose last blocks are merged, or stand. -/
theorem Mk2.tail {key : Nat → ByteArray} {q r : Nat → Nat} {n d j A : Nat} (h : Mk2 key q n d j A) (hn : n < A + 2 * d) (hm : A + d < n) (t : Turn A n q r) (o : Sorted key r A n) : Blk key r n (2 * d) := by
  obtain ⟨h1, h2⟩ := h.pair
  exact h.last hn t ((h1.at rfl (show _ = A + d by omega)).merged (h2.at rfl (show _ = n by omega)) (by omega) (by omega) t o)
theorem Mk2.stop {key : Nat → ByteArray} {q : Nat → Nat} {n d j A : Nat} (h : Mk2 key q n d j A) (hn : n < A + 2 * d) (hm : n ≤ A + d) : Blk key q n (2 * d) :=
  h.last hn (Turn.refl _ _ _) (h.pair.1.at rfl (by have := h.le; omega))

set_option maxRecDepth 100000 in
set_option maxHeartbeats 6400000 in
theorem stable_any (w : World) (g N n c : Nat) (V : Cel) (hn : n ≤ 1000000) (hc : n ≤ c) (H : SortR w g N n V id) :
    Calls Try.prog 71 #[.slice (some ⟨g, 0, none⟩) n c, .int .i64 n, .func (.func 60) #[] #[]] w (fun e w' => ∃ q, SrtP w g N n V q e w' ∧ Turn 0 n id q ∧ Sorted V.key q 0 n) := by
  have HH := Lib.hid H
  clear H
  go_enter Try.func71, Try.ntmps71
  go_wp2_with fail
  go_loopw [7, 8] (fun sa sb wr => ∃ (j A B : Nat) (q : Nat → Nat), sa = .int .i64 A ∧ sb = .int .i64 B ∧ B = A + 20 ∧ Mk1 V.key q n 20 j A ∧ SortR wr g N n V q ∧ Turn 0 n id q ∧ Chg (fun j => j = g) w wr) (fun sa sb _ => n + 20 - (intOf sb).toNat)
  case atStart => exact ⟨0, 0, 20, id, rfl, rfl, rfl, ⟨rfl, Nat.zero_le _, fun k hk => absurd hk (Nat.not_lt_zero _), fun _ _ => rfl⟩, HH.out, Turn.refl _ _ _, Chg.refl _ _⟩
  case round =>
    obtain ⟨j, A, B, q, rfl, rfl, hB, hM, hS, hT, hC⟩ := hrel
    have HM := Lib.hid hM; have HS := Lib.hid hS; have HT := Lib.hid hT; have HC := Lib.hid hC; have HB := Lib.hid hB
    have hAn := hM.le
    clear hM hS hT hC hB
    by_cases hlt : B ≤ n
    case pos =>
      have hlt' : (B : Int) ≤ n := by omega
      obtain ⟨B2, h_B2⟩ : ∃ x, x = B + 20 := ⟨_, rfl⟩
      have e_B2 : (B : Int) + 20 = (B2 : Int) := by omega
      have w_B2 : IntKind.i64.wrap (B2 : Int) = (B2 : Int) := by rw [IntKind.wrap_i64]; omega
      have HV_B2 := Lib.hid h_B2
      clear h_B2
      have HI := Lib.hid (ins_any wr g N n c V q hn hc HS.out A B (by have := HB.out; omega) hlt (fun x y h1 h2 h3 => by rw [HM.out.rest x h1, HM.out.rest y (by omega)]; exact h2))
      go_wp2_with fail
      refine HI.out.mono ?_
      rintro e w2 ⟨r, ⟨rfl, hs2, hc2⟩, ht2, ho2⟩
      have HN := Lib.hid (HM.out.next HB.out hlt ht2 ho2)
      have HS2 := Lib.hid hs2; have HC2 := Lib.hid (HC.out.trans hc2 (fun _ _ e => e)); have HT2 := Lib.hid (HT.out.trans (ht2.wide (Nat.zero_le _) hlt))
      clear hs2 hc2 ht2 ho2
      go_wp2_with fail
      go_roundw
      case rel => exact ⟨j + 1, B, B2, r, rfl, by go_num, HV_B2.out, HN.out, HS2.out, HT2.out, HC2.out⟩
      case measure => simp [intOf]; have := HV_B2.out; omega
    have hlt' : ¬ (B : Int) ≤ n := by omega
    have hnA : n < A + 20 := by have := HB.out; omega
    have HI := Lib.hid (ins_any wr g N n c V q hn hc HS.out A n hAn (Nat.le_refl _) (fun x y h1 h2 h3 => by rw [HM.out.rest x h1, HM.out.rest y (by omega)]; exact h2))
    go_wp2_with fail
    refine HI.out.mono ?_
    rintro e w2 ⟨r, ⟨rfl, hs2, hc2⟩, ht2, ho2⟩
    have HBK := Lib.hid (HM.out.last hnA ht2 ho2)
    have HS2 := Lib.hid hs2; have HC2 := Lib.hid (HC.out.trans hc2 (fun _ _ e => e)); have HT2 := Lib.hid (HT.out.trans (ht2.wide (Nat.zero_le _) (Nat.le_refl _)))
    clear hs2 hc2 ht2 ho2 HI HS HT HC HM HB hnA
    go_wp2_with fail
    go_loopw [6] (fun sd wr => ∃ (d : Nat) (q : Nat → Nat), 0 < d ∧ d ≤ 2000000 ∧ sd = .int .i64 d ∧ Blk V.key q n d ∧ SortR wr g N n V q ∧ Turn 0 n id q ∧ Chg (fun j => j = g) w wr) (fun sd _ => n - (intOf sd).toNat)
    case atStart => exact ⟨20, r, by omega, by omega, rfl, HBK.out, HS2.out, HT2.out, HC2.out⟩
    case round =>
      clear HBK HS2 HT2 HC2
      obtain ⟨d, q, hd0, hd1, rfl, hB, hS, hT, hC⟩ := hrel
      have HBK := Lib.hid hB; have HS := Lib.hid hS; have HT := Lib.hid hT; have HC := Lib.hid hC
      clear hB hS hT hC
      by_cases hdn : d < n
      case neg =>
        have hdn' : ¬ (d : Int) < n := by omega
        have HO := Lib.hid (show Sorted V.key q 0 n from (((HBK.out 0).at (by simp) (show _ = n by omega)) : Own V.key q 0 n).s)
        go_wp2_with fail
        go_end0
        exact ⟨q, ⟨rfl, HS.out, HC.out⟩, HT.out, HO.out⟩
      have hdn' : (d : Int) < n := by omega
      obtain ⟨d2, h_d2⟩ : ∃ x, x = 2 * d := ⟨_, rfl⟩
      have e_d2 : (2 : Int) * (d : Int) = (d2 : Int) := by omega
      have e_d2b : (d : Int) * 2 = (d2 : Int) := by omega
      have w_d2 : IntKind.i64.wrap (d2 : Int) = (d2 : Int) := by rw [IntKind.wrap_i64]; omega
      have hd2 : d2 ≤ 2000000 := by omega
      have HV_d2 := Lib.hid h_d2
      clear h_d2
      obtain ⟨wo, rfl⟩ : ∃ x, x = wr := ⟨_, rfl⟩
      go_wp2_with fail
      go_loopw [7, 8] (fun sa sb wr => ∃ (j A B : Nat) (q : Nat → Nat), sa = .int .i64 A ∧ sb = .int .i64 B ∧ B = A + d2 ∧ Mk2 V.key q n d j A ∧ SortR wr g N n V q ∧ Turn 0 n id q ∧ Chg (fun j => j = g) wo wr) (fun sa sb _ => n + d2 - (intOf sb).toNat)
      case atStart => exact ⟨0, 0, d2, q, rfl, rfl, by omega, Mk2.start HBK.out, HS.out, HT.out, Chg.refl _ _⟩
      case round =>
        clear HBK HS HT
        obtain ⟨j, A, B, q, rfl, rfl, hB, hM, hS, hT, hC⟩ := hrel
        have HM := Lib.hid hM; have HS := Lib.hid hS; have HT := Lib.hid hT; have HC3 := Lib.hid hC; have HB := Lib.hid (show B = A + 2 * d by rw [hB, HV_d2.out])
        have hAn := hM.le
        have hBn : B ≤ 3000000 := by omega
        clear hM hS hT hC hB
        obtain ⟨M, h_M⟩ : ∃ x, x = A + d := ⟨_, rfl⟩
        have e_M : (A : Int) + (d : Int) = (M : Int) := by omega
        have w_M : IntKind.i64.wrap (M : Int) = (M : Int) := by rw [IntKind.wrap_i64]; omega
        have HV_M := Lib.hid h_M
        clear h_M
        by_cases hlt : B ≤ n
        case pos =>
          have hlt' : (B : Int) ≤ n := by omega
          obtain ⟨B2, h_B2⟩ : ∃ x, x = B + d2 := ⟨_, rfl⟩
          have e_B2 : (B : Int) + (d2 : Int) = (B2 : Int) := by omega
          have w_B2 : IntKind.i64.wrap (B2 : Int) = (B2 : Int) := by rw [IntKind.wrap_i64]; omega
          have HV_B2 := Lib.hid h_B2
          clear h_B2
          have HI := Lib.hid (sym_any g N n c V hn hc _ A M B (Nat.le_refl _) (by have := HV_M.out; omega) (by have := HV_M.out; have := HB.out; omega) hlt wr q HS.out (by
            obtain ⟨p1, p2⟩ := HM.out.pair
            have m1 := HV_M.out; have m2 := HB.out
            exact (p1.at rfl (show _ = M by omega)).two (p2.at m1.symm (show _ = B by omega))))
          go_wp2_with fail
          refine HI.out.mono ?_
          rintro e w2 ⟨r, ⟨rfl, hs2, hc2⟩, ht2, ho2⟩
          have HN := Lib.hid (HM.out.next HB.out hlt ht2 ho2)
          have HS2 := Lib.hid hs2; have HC2 := Lib.hid (HC3.out.trans hc2 (fun _ _ e => e)); have HT2 := Lib.hid (HT.out.trans (ht2.wide (Nat.zero_le _) hlt))
          clear hs2 hc2 ht2 ho2
          go_wp2_with fail
          go_roundw
          case rel => exact ⟨j + 1, B, B2, r, rfl, by go_num, HV_B2.out, HN.out, HS2.out, HT2.out, HC2.out⟩
          case measure => simp [intOf]; have := HV_B2.out; omega
        have hlt' : ¬ (B : Int) ≤ n := by omega
        have HNB := Lib.hid (show n < A + 2 * d by have := HB.out; omega)
        by_cases hm : M < n
        · have hm' : (M : Int) < n := by omega
          have HI := Lib.hid (sym_any g N n c V hn hc _ A M n (Nat.le_refl _) (by have := HV_M.out; omega) hm (Nat.le_refl _) wr q HS.out (by
            obtain ⟨p1, p2⟩ := HM.out.pair
            have m1 := HV_M.out; have m2 := HNB.out
            exact (p1.at rfl (show _ = M by omega)).two (p2.at m1.symm (show _ = n by omega))))
          have HMN := Lib.hid (show A + d < n by have := HV_M.out; omega)
          clear hm
          go_wp2_with fail
          refine HI.out.mono ?_
          rintro e w2 ⟨r, ⟨rfl, hs2, hc2⟩, ht2, ho2⟩
          have HBK := Lib.hid (show Blk V.key r n d2 by rw [HV_d2.out]; exact HM.out.tail HNB.out HMN.out ht2 ho2)
          have HS2 := Lib.hid hs2; have HC2 := Lib.hid ((HC.out.trans HC3.out (fun _ _ e => e)).trans hc2 (fun _ _ e => e)); have HT2 := Lib.hid (HT.out.trans (ht2.wide (Nat.zero_le _) (Nat.le_refl _)))
          clear hs2 hc2 ht2 ho2
          go_wp2_with fail
          go_roundw
          case rel => exact ⟨d2, r, by have := HV_d2.out; omega, hd2, by go_num, HBK.out, HS2.out, HT2.out, HC2.out⟩
          case measure => simp [intOf]; have := HV_d2.out; omega
        · have hm' : ¬ (M : Int) < n := by omega
          have HBK := Lib.hid (show Blk V.key q n d2 by rw [HV_d2.out]; exact HM.out.stop HNB.out (by have := HV_M.out; omega))
          have HC2 := Lib.hid (HC.out.trans HC3.out (fun _ _ e => e))
          clear hm
          go_wp2_with fail
          go_roundw
          case rel => exact ⟨d2, q, by have := HV_d2.out; omega, hd2, by go_num, HBK.out, HS.out, HT.out, HC2.out⟩
          case measure => simp [intOf]; have := HV_d2.out; omega
set_option maxRecDepth 100000 in
set_option maxHeartbeats 1600000 in
theorem sorts_any (w : World) (g N n c : Nat) (V : Cel) (hn : n ≤ 1000000) (hc : n ≤ c) (H : SortR w g N n V id) :
    Calls Try.prog 59 #[.slice (some ⟨g, 0, none⟩) n c, .func (.func 60) #[] #[]] w (fun e w' => ∃ q, SrtP w g N n V q e w' ∧ Turn 0 n id q ∧ Sorted V.key q 0 n) := by
  have HI := Lib.hid (stable_any w g N n c V hn hc H)
  clear H
  go_enter Try.func59, Try.ntmps59
  go_wp2_with fail
  refine HI.out.mono ?_
  rintro e w2 ⟨r, ⟨rfl, hs2, hc2⟩, ht2, ho2⟩
  have HS2 := Lib.hid hs2; have HC2 := Lib.hid hc2; have HT2 := Lib.hid ht2; have HO2 := Lib.hid ho2
  clear hs2 hc2 ht2 ho2
  go_wp2_with fail
  go_end0
  exact ⟨r, ⟨rfl, HS2.out, HC2.out⟩, HT2.out, HO2.out⟩
end Go.Proofs.Ytiecbgclkdlpkaa
