/-
  The walks of export's reader: bytes, num, count, text, truth. The conditions: the reader lies in memory of the call's own (RdS), what it reads in memory that stands.
-/
import Derived.Test.YtghnaaahkbnhlaaEncB
import Derived.Test.YtghnaaahkbnhlaaSums
import Derived.WalkLawsBesides
import Derived.Lib.EndianBits
namespace Go.Proofs.Ytghnaaahkbnhlaa
open Go.RowKit Go.Lib
set_option linter.unusedVariables false
set_option linter.unusedSimpArgs false

structure RdS (W0 w : World) (br : Nat) (l : List UInt8) (dp : Int) : Prop where
  old : Below W0.heap.size W0 w
  br_ge : W0.heap.size ≤ br
  at_ : ∃ b o c, w.heap[br]? = some (.cells #[.slice (some ⟨b, o, none⟩) l.length c, .int .i64 dp] 79 (0, 0)) ∧ l.length ≤ c ∧ RdB W0 (some ⟨b, o, none⟩) l
  len : l.length ≤ 262144

/-- What a reading comes to: a value and what is left, or it is given up. -/
def RdP {α : Type} (W0 : World) (br : Nat) (dp : Int) (w : World) (r : Option (α × List UInt8)) (val : α → Value → World → Prop) (e : Ending) (w' : World) : Prop :=
  match r with
  | some (x, l') => ∃ v, e = .returned v ∧ val x v w' ∧ RdS W0 w' br l' dp ∧ Chg (fun k => k = br) w w'
  | none => ∃ u, e = .panicked [{ v := .iface 146 u, recovered := false }] ∧ Chg (fun k => k = br) w w'

def takeP (n : Int) (l : List UInt8) : Option (List UInt8 × List UInt8) := if 0 ≤ n ∧ n ≤ l.length then some (l.take n.toNat, l.drop n.toNat) else none

theorem RdB.take {w : World} {b o : Nat} {l : List UInt8} (h : RdB w (some ⟨b, o, none⟩) l) (n : Nat) : RdB w (some ⟨b, o, none⟩) (l.take n) := fun k hk => by
  obtain ⟨b', o', hA, hc⟩ := h k (by simp at hk; omega)
  exact ⟨b', o', hA, by rw [List.getElem_take]; exact hc⟩
theorem RdB.drop {w : World} {b o : Nat} {l : List UInt8} (h : RdB w (some ⟨b, o, none⟩) l) (n : Nat) : RdB w (some ⟨b, o + n, none⟩) (l.drop n) := fun k hk => by
  obtain ⟨b', o', hA, hc⟩ := h (n + k) (by simp at hk; omega)
  simp only [Option.some.injEq, Addr.mk.injEq, and_true] at hA
  obtain ⟨rfl, rfl⟩ := hA
  exact ⟨b, o + n, rfl, by rw [List.getElem_drop, Nat.add_assoc]; exact hc⟩
theorem RdB.nil (w : World) (A : Option Addr) : RdB w A [] := fun k hk => absurd hk (by simp)

theorem RdS.step {W0 w : World} {br : Nat} {l : List UInt8} {dp : Int} (h : RdS W0 w br l dp) {b o c : Nat} {l' : List UInt8} (hl : l'.length ≤ 262144) (hc : l'.length ≤ c) (hr : RdB W0 (some ⟨b, o, none⟩) l') :
    RdS W0 (w.setCell ⟨br, 0, none⟩ (.slice (some ⟨b, o, none⟩) l'.length c)) br l' dp ∧ Chg (fun k => k = br) w (w.setCell ⟨br, 0, none⟩ (.slice (some ⟨b, o, none⟩) l'.length c)) := by
  obtain ⟨b0, o0, c0, hb, _, _⟩ := h.at_
  have hch : Chg (fun k => k = br) w (w.setCell ⟨br, 0, none⟩ (.slice (some ⟨b, o, none⟩) l'.length c)) := (Chg.refl (fun k => k = br) w).setCell (p := ⟨br, 0, none⟩) (fun _ => rfl) _
  exact ⟨⟨Below.chg h.old hch h.old.size (fun i e => e ▸ h.br_ge), h.br_ge, ⟨b, o, c, by simpa using set_at hb 0 _, hc, hr⟩, hl⟩, hch⟩

/-- Bytes that are there: a slice of them. -/
def ValB (W0 : World) (l : List UInt8) (v : Value) (_ : World) : Prop := ∃ b o c, v = .slice (some ⟨b, o, none⟩) l.length c ∧ l.length ≤ c ∧ RdB W0 (some ⟨b, o, none⟩) l

set_option maxRecDepth 100000 in
set_option maxHeartbeats 400000 in
theorem rbytes_any (W0 w : World) (br : Nat) (l : List UInt8) (dp : Int) (n : Int) (h : RdS W0 w br l dp) (hi : In64 n) :
    Calls Try.prog 69 #[.pointer (some ⟨br, 0, none⟩), .int .i64 n] w (RdP W0 br dp w (takeP n l) (ValB W0)) := by
  obtain ⟨b, o, c, hb, hc, hr⟩ := h.at_
  have hl := h.len
  have c0 : w.cell? ⟨br, 0, none⟩ = some (.slice (some ⟨b, o, none⟩) l.length c) := (cell_at hb 0).trans rfl
  have f0 := free_at hb 0
  have HR := Lib.hid hr; have H := Lib.hid h
  unfold In64 at hi
  clear hb hr h
  by_cases h0 : n < 0
  · have HT := Lib.hid (show takeP n l = none by unfold takeP; rw [if_neg (by omega)])
    go_enter Try.func69, Try.ntmps69
    go_wp2_with fail
    refine ⟨rfl, ?_⟩
    rw [HT.out]
    exact ⟨_, rfl, Chg.refl _ _⟩
  · by_cases h1 : (l.length : Int) < n
    · have HT := Lib.hid (show takeP n l = none by unfold takeP; rw [if_neg (by omega)])
      go_enter Try.func69, Try.ntmps69
      go_wp2_with fail
      refine ⟨rfl, ?_⟩
      rw [HT.out]
      exact ⟨_, rfl, Chg.refl _ _⟩
    · obtain ⟨m, rfl⟩ : ∃ m : Nat, n = m := ⟨n.toNat, by omega⟩
      have hm : m ≤ l.length := by omega
      have HT := Lib.hid (show takeP m l = some (l.take m, l.drop m) by unfold takeP; rw [if_pos (by omega)]; rfl)
      have e1 : (l.take m).length = m := by rw [List.length_take]; omega
      have e2 : (l.drop m).length = l.length - m := List.length_drop
      have E1 := Lib.hid e1; have E2 := Lib.hid e2; clear e1 e2
      by_cases hcm : c = m
      · subst hcm
        have hz : l.length = c := by omega
        have HZ := Lib.hid (show l.length - c = 0 by omega)
        have S := Lib.hid (H.out.step (l' := l.drop c) (b := b) (o := o) (c := 0) (by rw [E2.out]; omega) (by rw [E2.out]; omega) (by rw [List.drop_of_length_le (by omega)]; exact RdB.nil _ _))
        have HM := Lib.hid hm
        have hnn : ¬ ((l.length : Int) < (c : Int)) := by omega
        have HV := Lib.hid (show ValB W0 (l.take c) (.slice (some ⟨b, o, none⟩) c c) w from ⟨b, o, c, by rw [E1.out], by rw [E1.out]; exact Nat.le_refl _, HR.out.take c⟩)
        clear hm hz
        go_enter Try.func69, Try.ntmps69
        go_wp2_with fail
        refine bodyPost_ret (results_tmp rfl _ _ _) rfl ?_
        rw [HT.out]
        refine ⟨_, rfl, HV.out, ?_⟩
        have := S.out
        rw [E2.out] at this
        first | exact this | (rw [HZ.out] at this; exact this)
      · have hmc : m < c := by omega
        have hmc' : ¬ c ≤ m := by omega
        have S := Lib.hid (H.out.step (l' := l.drop m) (b := b) (o := o + m) (c := c - m) (by rw [E2.out]; omega) (by rw [E2.out]; omega) (HR.out.drop m))
        have hnn : ¬ ((l.length : Int) < (m : Int)) := by omega
        have HV := Lib.hid (show ValB W0 (l.take m) (.slice (some ⟨b, o, none⟩) m c) w from ⟨b, o, c, by rw [E1.out], by rw [E1.out]; omega, HR.out.take m⟩)
        go_enter Try.func69, Try.ntmps69
        go_wp2_with fail
        refine bodyPost_ret (results_tmp rfl _ _ _) rfl ?_
        rw [HT.out]
        refine ⟨_, rfl, HV.out, ?_⟩
        have := S.out
        rw [E2.out] at this
        exact this

/-- Bytes as a number, the least first. -/
def unle : List UInt8 → Nat
  | [] => 0
  | x :: r => x.toNat + 256 * unle r
theorem unle_lt : ∀ l : List UInt8, unle l < 2 ^ (8 * l.length)
  | [] => by simp [unle]
  | x :: r => by
    have h := unle_lt r
    have hx := x.toNat_lt
    rw [List.length_cons, show 8 * (r.length + 1) = 8 * r.length + 8 by omega, Nat.pow_add]
    simp only [unle]
    generalize 2 ^ (8 * r.length) = q at *
    omega
theorem unle_take : ∀ (l : List UInt8) (k : Nat) (h : k < l.length), unle (l.take (k + 1)) = unle (l.take k) + l[k].toNat * 2 ^ (8 * k)
  | x :: r, 0, _ => by simp [unle]
  | x :: r, k + 1, h => by
    have hk' : k < r.length := by simpa using h
    simp only [List.take_succ_cons, unle, List.getElem_cons_succ]
    rw [unle_take r k hk', show 8 * (k + 1) = 8 * k + 8 by omega, Nat.pow_add]
    generalize 2 ^ (8 * k) = q
    rw [Nat.mul_add, show r[k].toNat * (q * 2 ^ 8) = 256 * (r[k].toNat * q) by rw [← Nat.mul_assoc]; omega]
    omega
  | [], k, h => absurd h (by simp)
def numP (l : List UInt8) : Option (Int × List UInt8) := match takeP 8 l with
  | some (a, r) => some (wrap64 (unle a), r)
  | none => none
theorem takeP_len {n : Nat} {l a r : List UInt8} (h : takeP n l = some (a, r)) : a.length = n ∧ l = a ++ r := by
  unfold takeP at h
  split at h
  · rename_i hn
    simp only [Option.some.injEq, Prod.mk.injEq] at h
    obtain ⟨rfl, rfl⟩ := h
    refine ⟨by rw [List.length_take]; simp; omega, by simp⟩
  · cases h
/-- The next byte joins those that are there. -/
theorem join_byte (a : List UInt8) (ha : a.length = 8) (k : Nat) (hk : k < 8) :
    bits .or .u64 (unle (a.take k) : Nat) (IntKind.u64.wrap (IntKind.u64.wrap ((a[k]'(by omega)).toNat : Int) * 2 ^ (8 * k))) = ((unle (a.take (k + 1)) : Nat) : Int) ∧ unle (a.take (k + 1)) < 18446744073709551616 := by
  have hx := (a[k]'(by omega)).toNat_lt
  have h0 := unle_lt (a.take k)
  have h1 := unle_lt (a.take (k + 1))
  rw [List.length_take, Nat.min_eq_left (by omega)] at h0 h1
  have ht := unle_take a k (by omega)
  have hp : 2 ^ (8 * (k + 1)) ≤ 2 ^ 64 := Nat.pow_le_pow_right (by decide) (by omega)
  have hlt : unle (a.take (k + 1)) < 18446744073709551616 := Nat.lt_of_lt_of_le h1 hp
  have hw : IntKind.u64.wrap ((a[k]'(by omega)).toNat : Int) = ((a[k]'(by omega)).toNat : Int) := by rw [Go.IntKind.wrap_u64]; omega
  have hc : ((a[k]'(by omega)).toNat : Int) * 2 ^ (8 * k) = (((a[k]'(by omega)).toNat * 2 ^ (8 * k) : Nat) : Int) := by push_cast; rfl
  have hw2 : IntKind.u64.wrap (((a[k]'(by omega)).toNat * 2 ^ (8 * k) : Nat) : Int) = (((a[k]'(by omega)).toNat * 2 ^ (8 * k) : Nat) : Int) := by rw [Go.IntKind.wrap_u64]; omega
  refine ⟨?_, hlt⟩
  rw [hw, hc, hw2, Go.bits_join_low .u64 64 (Nat.le_refl _) (fun n h0 h1 => Go.wraps_u64 n h0 h1) (8 * k) _ _ (by omega) (by exact_mod_cast h0) (by omega) (by omega) (by
    exact_mod_cast Nat.mul_mod_left _ _) (by omega)]
  rw [ht]; push_cast; rfl

/-- A number. -/
def ValN (n : Int) (v : Value) (_ : World) : Prop := v = .int .i64 n

set_option maxRecDepth 100000 in
set_option maxHeartbeats 800000 in
theorem rdnum_any (W0 w : World) (br : Nat) (l : List UInt8) (dp : Int) (h : RdS W0 w br l dp) :
    Calls Try.prog 41 #[.pointer (some ⟨br, 0, none⟩)] w (RdP W0 br dp w (numP l) ValN) := by
  have H := Lib.hid h; clear h
  go_enter Try.func41, Try.ntmps41
  go_wp2_with fail
  refine (rbytes_any W0 _ br l dp 8 H.out (by unfold In64; omega)).mono ?_
  intro e w1 he
  unfold RdP at he
  cases ht : takeP 8 l with
  | none =>
    rw [ht] at he
    obtain ⟨u, rfl, hc⟩ := he
    have HT := Lib.hid (show numP l = none by unfold numP; rw [ht])
    have HC := Lib.hid hc
    clear ht hc
    go_wp2_with fail
    refine ⟨rfl, ?_⟩
    rw [HT.out]
    exact ⟨_, rfl, HC.out⟩
  | some x =>
    obtain ⟨a, l'⟩ := x
    rw [ht] at he
    obtain ⟨v, rfl, ⟨b, o, c, rfl, hlc, hrd⟩, hs, hc⟩ := he
    have ha := (takeP_len (n := 8) ht).1
    have HT := Lib.hid (show numP l = some (wrap64 (unle a), l') by unfold numP; rw [ht])
    have HC := Lib.hid hc; have HS := Lib.hid hs; have HR := Lib.hid hrd
    clear ht hc hs hrd
    go_wp2_with fail
    go_loopw [3, 9] (fun x i wr => ∃ (k : Nat) (s : Int), k ≤ 8 ∧ i = .int .i64 k ∧ x = .int .u64 s ∧ s = ((unle (a.take k) : Nat) : Int) ∧ wr = w1) (fun x i _ => 8 - (intOf i).toNat)
    case atStart => exact ⟨0, 0, by omega, rfl, rfl, by simp [unle], rfl⟩
    case round =>
      obtain ⟨k, s, hk, rfl, rfl, hs, rfl⟩ := hrel
      by_cases hlt : k < 8
      · have f : wr.cell? ⟨b, o + k, none⟩ = some (.int .u8 (a[k]'(by omega)).toNat) := by
          obtain ⟨b', o', hA, hc⟩ := HR.out k (by omega)
          simp only [Option.some.injEq, Addr.mk.injEq, and_true] at hA
          obtain ⟨rfl, rfl⟩ := hA
          exact Below.sub HS.out.old _ _ hc
        have hlt' : (k : Int) < 8 := by omega
        have HJ := Lib.hid (join_byte a ha k hlt)
        have HSS := Lib.hid hs; clear hs
        go_wp2_with fail
        go_roundw
        case rel => exact ⟨k + 1, _, by omega, by go_num, rfl, by rw [HSS.out]; exact HJ.out.1, trivial⟩
        case measure => simp [intOf]; omega
      · obtain rfl : k = 8 := by omega
        have hlt' : ¬ ((8 : Nat) : Int) < 8 := by omega
        rw [List.take_of_length_le (by omega)] at hs
        have HSS := Lib.hid hs; clear hs
        go_wp2_with fail
        refine bodyPost_ret (results_tmp rfl _ _ _) rfl ?_
        rw [HT.out]
        refine ⟨_, rfl, ?_, HS.out, HC.out⟩
        rw [← HSS.out]
        rfl

/-- A reading has come to an end: so or so. -/
theorem RdP.split {α : Type} {W0 w w' : World} {br : Nat} {dp : Int} {r : Option (α × List UInt8)} {val : α → Value → World → Prop} {e : Ending} (h : RdP W0 br dp w r val e w') :
    (∃ x l' v, r = some (x, l') ∧ e = .returned v ∧ val x v w' ∧ RdS W0 w' br l' dp ∧ Chg (fun k => k = br) w w') ∨ (r = none ∧ ∃ u, e = .panicked [{ v := .iface 146 u, recovered := false }] ∧ Chg (fun k => k = br) w w') := by
  unfold RdP at h
  cases r with
  | none => exact .inr ⟨rfl, h⟩
  | some x => obtain ⟨x, l'⟩ := x; obtain ⟨v, h1, h2, h3, h4⟩ := h; exact .inl ⟨x, l', v, rfl, h1, h2, h3, h4⟩

def countP (l : List UInt8) : Option (Nat × List UInt8) := match numP l with
  | some (v, r) => if 0 ≤ v ∧ v ≤ r.length then some (v.toNat, r) else none
  | none => none
def ValC (n : Nat) (v : Value) (_ : World) : Prop := v = .int .i64 n
theorem numP_in {l r : List UInt8} {v : Int} (h : numP l = some (v, r)) : In64 v := by
  unfold numP at h
  split at h
  · simp only [Option.some.injEq, Prod.mk.injEq] at h
    rw [← h.1]; unfold In64 wrap64; omega
  · cases h
theorem countP_le {l r : List UInt8} {n : Nat} (h : countP l = some (n, r)) : n ≤ r.length := by
  unfold countP at h
  split at h
  · split at h
    · simp only [Option.some.injEq, Prod.mk.injEq] at h
      obtain ⟨h1, rfl⟩ := h
      omega
    · cases h
  · cases h

set_option maxRecDepth 100000 in
set_option maxHeartbeats 800000 in
theorem rdcount_any (W0 w : World) (br : Nat) (l : List UInt8) (dp : Int) (h : RdS W0 w br l dp) :
    Calls Try.prog 70 #[.pointer (some ⟨br, 0, none⟩)] w (RdP W0 br dp w (countP l) ValC) := by
  have H := Lib.hid h; clear h
  go_enter Try.func70, Try.ntmps70
  go_wp2_with fail
  refine (rdnum_any W0 _ br l dp H.out).mono ?_
  intro e w1 he
  rcases he.split with ⟨x, l', v, hp, rfl, rfl, hs, hc⟩ | ⟨hp, u, rfl, hc⟩
  · obtain ⟨b, o, c, hb, _, _⟩ := hs.at_
    have c0 : w1.cell? ⟨br, 0, none⟩ = some (.slice (some ⟨b, o, none⟩) l'.length c) := (cell_at hb 0).trans rfl
    have hl := hs.len
    have hi := numP_in hp
    unfold In64 at hi
    have HS := Lib.hid hs; have HC := Lib.hid hc
    clear hb hs hc he
    by_cases h0 : x < 0
    · have HT := Lib.hid (show countP l = none by unfold countP; rw [hp]; exact if_neg (by omega))
      clear hp
      go_wp2_with fail
      refine ⟨rfl, ?_⟩
      rw [HT.out]
      exact ⟨_, rfl, HC.out⟩
    · by_cases h1 : (l'.length : Int) < x
      · have HT := Lib.hid (show countP l = none by unfold countP; rw [hp]; exact if_neg (by omega))
        clear hp
        go_wp2_with fail
        refine ⟨rfl, ?_⟩
        rw [HT.out]
        exact ⟨_, rfl, HC.out⟩
      · have HT := Lib.hid (show countP l = some (x.toNat, l') by unfold countP; rw [hp]; exact if_pos (by omega))
        have HX := Lib.hid (show ((x.toNat : Nat) : Int) = x by omega)
        clear hp
        go_wp2_with fail
        refine bodyPost_ret (results_tmp rfl _ _ _) rfl ?_
        rw [HT.out]
        refine ⟨_, rfl, ?_, HS.out, HC.out⟩
        show _ = Value.int .i64 ((x.toNat : Nat) : Int)
        rw [HX.out]; rfl
  · have HT := Lib.hid (show countP l = none by unfold countP; rw [hp])
    have HC := Lib.hid hc
    clear hp hc he
    go_wp2_with fail
    refine ⟨rfl, ?_⟩
    rw [HT.out]
    exact ⟨_, rfl, HC.out⟩

def textP (l : List UInt8) : Option (ByteArray × List UInt8) := match countP l with
  | some (n, r) => some (⟨(r.take n).toArray⟩, r.drop n)
  | none => none
def ValS (s : ByteArray) (v : Value) (_ : World) : Prop := v = .string s

set_option maxRecDepth 100000 in
set_option maxHeartbeats 800000 in
theorem rdtext_any (W0 w : World) (br : Nat) (l : List UInt8) (dp : Int) (h : RdS W0 w br l dp) :
    Calls Try.prog 42 #[.pointer (some ⟨br, 0, none⟩)] w (RdP W0 br dp w (textP l) ValS) := by
  have H := Lib.hid h; clear h
  go_enter Try.func42, Try.ntmps42
  go_wp2_with fail
  refine (rdcount_any W0 _ br l dp H.out).mono ?_
  intro e w1 he
  rcases he.split with ⟨n, r, v, hp, rfl, rfl, hs, hc⟩ | ⟨hp, u, rfl, hc⟩
  · have hn := countP_le hp
    have hl := hs.len
    have HT := Lib.hid (show textP l = some (⟨(r.take n).toArray⟩, r.drop n) by unfold textP; rw [hp])
    have HK := Lib.hid (show takeP n r = some (r.take n, r.drop n) by unfold takeP; rw [if_pos (by omega)]; rfl)
    generalize r.take n = a at HT HK
    have HS := Lib.hid hs; have HC := Lib.hid hc
    clear hp hs hc he
    go_wp2_with fail
    refine (rbytes_any W0 _ br r dp n HS.out (by unfold In64; omega)).mono ?_
    intro e w2 he
    rw [HK.out] at he
    obtain ⟨v, rfl, ⟨b, o, c, rfl, hlc, hrd⟩, hs2, hc2⟩ := he
    have hcv : (convert 22 9 (.slice (some ⟨b, o, none⟩) a.length c)).run Try.prog w2 = .ok (.string ⟨a.toArray⟩) w2 := by
      refine conv_bytes 22 9 5 Try.underlying22 Try.underlying5 Try.underlying9 b o c a fun i x hx => ?_
      obtain ⟨hi, rfl⟩ := List.getElem?_eq_some_iff.1 hx
      obtain ⟨b', o', hA, hcell⟩ := hrd i hi
      simp only [Option.some.injEq, Addr.mk.injEq, and_true] at hA
      obtain ⟨rfl, rfl⟩ := hA
      exact Below.sub hs2.old _ _ hcell
    have HS2 := Lib.hid hs2; have HC2 := Lib.hid (HC.out.trans hc2 (fun _ _ e => e))
    clear hs2 hc2 hrd
    go_wp2_with fail
    refine bodyPost_ret (results_tmp rfl _ _ _) rfl ?_
    rw [HT.out]
    exact ⟨_, rfl, rfl, HS2.out, HC2.out⟩
  · have HT := Lib.hid (show textP l = none by unfold textP; rw [hp])
    have HC := Lib.hid hc
    clear hp hc he
    go_wp2_with fail
    refine ⟨rfl, ?_⟩
    rw [HT.out]
    exact ⟨_, rfl, HC.out⟩

def truthP (l : List UInt8) : Option (Bool × List UInt8) := match numP l with
  | some (v, r) => if v = 0 then some (false, r) else if v = 1 then some (true, r) else none
  | none => none
def ValT (b : Bool) (v : Value) (_ : World) : Prop := v = .bool b
set_option maxRecDepth 100000 in
set_option maxHeartbeats 800000 in
theorem rdtruth_any (W0 w : World) (br : Nat) (l : List UInt8) (dp : Int) (h : RdS W0 w br l dp) :
    Calls Try.prog 74 #[.pointer (some ⟨br, 0, none⟩)] w (RdP W0 br dp w (truthP l) ValT) := by
  have H := Lib.hid h; clear h
  go_enter Try.func74, Try.ntmps74
  go_wp2_with fail
  refine (rdnum_any W0 _ br l dp H.out).mono ?_
  intro e w1 he
  rcases he.split with ⟨x, l', v, hp, rfl, rfl, hs, hc⟩ | ⟨hp, u, rfl, hc⟩
  · have HS := Lib.hid hs; have HC := Lib.hid hc
    clear hs hc he
    by_cases h0 : x = 0
    · subst h0
      have HT := Lib.hid (show truthP l = some (false, l') by unfold truthP; rw [hp]; rfl)
      clear hp
      go_wp2_with fail
      refine bodyPost_ret (results_tmp rfl _ _ _) rfl ?_
      rw [HT.out]
      exact ⟨_, rfl, rfl, HS.out, HC.out⟩
    · by_cases h1 : x = 1
      · subst h1
        have HT := Lib.hid (show truthP l = some (true, l') by unfold truthP; rw [hp]; rfl)
        clear hp
        go_wp2_with fail
        refine bodyPost_ret (results_tmp rfl _ _ _) rfl ?_
        rw [HT.out]
        exact ⟨_, rfl, rfl, HS.out, HC.out⟩
      · have HT := Lib.hid (show truthP l = none by unfold truthP; rw [hp]; simp only; rw [if_neg h0, if_neg h1])
        have n0 : (x != 0) = true := by simp [h0]
        have n1 : (x != 1) = true := by simp [h1]
        clear hp
        go_wp2_with fail
        refine ⟨rfl, ?_⟩
        rw [HT.out]
        exact ⟨_, rfl, HC.out⟩
  · have HT := Lib.hid (show truthP l = none by unfold truthP; rw [hp])
    have HC := Lib.hid hc
    clear hp hc he
    go_wp2_with fail
    refine ⟨rfl, ?_⟩
    rw [HT.out]
    exact ⟨_, rfl, HC.out⟩
end Go.Proofs.Ytghnaaahkbnhlaa
