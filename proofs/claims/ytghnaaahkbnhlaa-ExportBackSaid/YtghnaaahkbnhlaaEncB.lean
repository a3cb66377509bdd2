/-
  The walks of export's writer: numbers, texts, truths. The conditions: as in XEncA; a number is one of 64 bits.
-/
import Derived.Test.YtghnaaahkbnhlaaEncA
import Derived.Laws.BytesArg
namespace Go.Proofs.Ytghnaaahkbnhlaa
open Go.RowKit

/-- Byte k of a number, the lowest first. -/
def byteAt (v : Int) (k : Nat) : UInt8 := UInt8.ofNat ((IntKind.u64.wrap v / 2 ^ (8 * k) % 256).toNat)
def le8 (v : Int) : List UInt8 := (List.range 8).map (byteAt v)
theorem le8_length (v : Int) : (le8 v).length = 8 := by simp [le8]
theorem byteAt_toNat (v : Int) (k : Nat) : ((byteAt v k).toNat : Int) = IntKind.u64.wrap v / 2 ^ (8 * k) % 256 := by
  unfold byteAt
  have h0 : 0 ≤ IntKind.u64.wrap v / 2 ^ (8 * k) % 256 := Int.emod_nonneg _ (by decide)
  have h1 : IntKind.u64.wrap v / 2 ^ (8 * k) % 256 < 256 := Int.emod_lt_of_pos _ (by decide)
  generalize IntKind.u64.wrap v / 2 ^ (8 * k) % 256 = x at *
  rw [UInt8.toNat_ofNat']
  omega

/-- The array while it is filled. -/
def numRow (v : Int) (k : Nat) : List UInt8 := (le8 v).take k ++ List.replicate (8 - k) 0
theorem numRow_length (v : Int) (k : Nat) (hk : k ≤ 8) : (numRow v k).length = 8 := by simp [numRow, le8_length]; omega
theorem numRow_zero (v : Int) : numRow v 0 = List.replicate 8 0 := by simp [numRow]
theorem numRow_full (v : Int) : numRow v 8 = le8 v := by simp [numRow, List.take_of_length_le, le8_length]
theorem numRow_set (v : Int) (k : Nat) (hk : k < 8) : (numRow v k).set k (byteAt v k) = numRow v (k + 1) := by
  apply List.ext_getElem
  · rw [List.length_set, numRow_length _ _ (by omega), numRow_length _ _ (by omega)]
  · intro i h1 h2
    have hi : i < 8 := by rw [numRow_length _ _ (by omega)] at h2; exact h2
    simp only [numRow, List.getElem_set, List.getElem_append, List.length_take, le8_length, List.getElem_take, List.getElem_replicate]
    by_cases e : k = i
    · subst e
      rw [if_pos rfl, dif_pos (by omega)]
      simp [le8]
    · rw [if_neg e]
      by_cases h : i < k
      · rw [dif_pos (by omega), dif_pos (by omega)]
      · rw [dif_neg (by omega), dif_neg (by omega)]

def NumAt (w : World) (v : Int) (k : Nat) (wr : World) : Prop :=
  wr.heap[w.heap.size]? = some (.cells (bytesV (numRow v k)).toArray 112 (0, 0)) ∧ Chg (fun _ => False) w wr

theorem NumAt.start (w : World) (v : Int) : NumAt w v 0 (w.alloc (.cells #[.int .u8 0, .int .u8 0, .int .u8 0, .int .u8 0, .int .u8 0, .int .u8 0, .int .u8 0, .int .u8 0] 112)) :=
  ⟨by rw [alloc_at, numRow_zero]; rfl, (Chg.refl _ _).alloc _⟩
theorem NumAt.cell {w wr : World} {v : Int} {k : Nat} (h : NumAt w v k wr) (hk : k < 8) : ∃ x, wr.cell? ⟨w.heap.size, k, none⟩ = some x := by
  rw [cell_at h.1]
  have : k < (bytesV (numRow v k)).length := by rw [bytesV_length, numRow_length _ _ (by omega)]; exact hk
  exact ⟨_, by simp [List.getElem?_eq_getElem this]; rfl⟩
theorem NumAt.next {w wr : World} {v : Int} {k : Nat} (h : NumAt w v k wr) (hk : k < 8) :
    NumAt w v (k + 1) (wr.setCell ⟨w.heap.size, k, none⟩ (.int .u8 (IntKind.u64.wrap v / 2 ^ (8 * k) % 256))) := by
  refine ⟨?_, h.2.setCell (fun q => absurd q (Nat.lt_irrefl _)) _⟩
  rw [set_at h.1, ← byteAt_toNat, ← numRow_set v k hk]
  simp [bytesV, List.map_set]

/-- A slice of bytes made a string. -/
theorem conv_bytes {P : Program} {w : World} (src dst e : TypeId) (hs : P.underlying src = some (.slice e)) (he : P.underlying e = some (.int .u8)) (hd : P.underlying dst = some .string) (b off c : Nat) (l : List UInt8)
    (h : ∀ i x, l[i]? = some x → w.cell? ⟨b, off + i, none⟩ = some (.int .u8 x.toNat)) :
    (convert src dst (.slice (some ⟨b, off, none⟩) l.length c)).run P w = .ok (.string ⟨l.toArray⟩) w := by
  have := run_convert_bytes_arg w src e hs he b off l.length c (l.map fun x => (x.toNat : Int)) (by simp) (fun i hi => by
    rw [h i l[i] (List.getElem?_eq_getElem hi)]
    simp [List.getD_eq_getElem?_getD, List.getElem?_eq_getElem hi]) dst hd
  rw [this]
  have e : (l.map fun x => (x.toNat : Int)).map (fun n => UInt8.ofNat n.toNat) = l := by
    rw [List.map_map]
    exact (List.map_congr_left fun x _ => by simp).trans (List.map_id l)
  simp only [strOfNums, e]

theorem WrS.grow {W0 w wr : World} {bw : Nat} {st : WSt} (h : WrS W0 w bw st) (k : Chg (fun _ => False) w wr) : WrS W0 wr bw st := by
  obtain ⟨v, hb, ho, hr⟩ := h.at_
  exact ⟨Below.chg h.old k h.old.size (fun _ q => q.elim), h.bw_ge, ⟨v, k.heap hb id, ho.kept ⟨k.os, k.tape, k.output, k.size, fun i hi _ => k.block i hi id⟩ (row := none) (by cases v.ownBlock <;> simp), hr⟩, h.ne, h.le⟩
theorem Wrote.after {W0 w wr w' : World} {bw : Nat} {st st' : WSt} {p : List UInt8} (k : Chg (fun _ => False) w wr) (h : Wrote W0 bw wr st p w' st') : Wrote W0 bw w st p w' st' :=
  ⟨h.own, h.put, k.mono (fun _ _ q => q.elim) |>.trans h.chg (fun _ _ q => q), h.row.imp id (fun ⟨i, e, hi⟩ => ⟨i, e, Nat.le_trans k.size hi⟩)⟩
theorem WPost.after {W0 w wr w' : World} {bw : Nat} {st : WSt} {p : List UInt8} {e : Ending} (k : Chg (fun _ => False) w wr) (h : WPost W0 bw wr st p e w') : WPost W0 bw w st p e w' :=
  ⟨h.1, h.2.imp fun _ q => q.after k⟩

set_option maxRecDepth 100000 in
set_option maxHeartbeats 400000 in
theorem num_any (W0 w : World) (bw : Nat) (st : WSt) (v : Int) (h : WrS W0 w bw st) (hv : In64 v) :
    Calls Try.prog 30 #[.pointer (some ⟨bw, 0, none⟩), .int .i64 v] w (WPost W0 bw w st (le8 v)) := by
  obtain ⟨h1, h2⟩ := hv
  go_enter Try.func30, Try.ntmps30
  go_wp2
  go_loopw [6] (fun i wr => ∃ k : Nat, k ≤ 8 ∧ i = .int .i64 k ∧ NumAt w v k wr) (fun i _ => 8 - (intOf i).toNat)
  case atStart => exact ⟨0, by omega, rfl, NumAt.start w v⟩
  case round =>
    obtain ⟨k, hk, rfl, hw⟩ := hrel
    by_cases hlt : k < 8
    · obtain ⟨x, hx⟩ := hw.cell hlt
      have hf : wr.frozen? ⟨w.heap.size, k, none⟩ = false := free_at hw.1 k
      go_wp2
      go_roundw
      case rel => exact ⟨k + 1, by omega, by go_num, hw.next hlt⟩
      case measure => simp [intOf]; omega
    · obtain rfl : k = 8 := by omega
      have hcv : (convert 22 9 (.slice (some ⟨w.heap.size, 0, none⟩) 8 8)).run Try.prog wr = .ok (.string ⟨(le8 v).toArray⟩) wr := by
        refine conv_bytes 22 9 5 Try.underlying22 Try.underlying5 Try.underlying9 _ 0 8 (le8 v) (fun i x hx => ?_)
        rw [Nat.zero_add, cell_at hw.1, numRow_full]
        simp [bytesV, hx]
      have hc := hw.2
      have HS := Lib.hid (h.grow hc)
      have HC := Lib.hid hc
      clear hw hlt hk h1 h2 h hc
      go_wp2_with (go_at_call 22; refine (bytes_any W0 _ bw st _ HS.out (by simp [Reach, ByteArray.size, le8_length])).mono ?_; rintro e w2 ⟨rfl, hw2⟩)
      refine bodyPost_end (results_none rfl _ _ _) rfl ⟨rfl, ?_⟩
      exact (hw2.imp fun _ q => q.after HC.out)

theorem Puts.trans {a b c : WSt} {p q : List UInt8} (h : Puts a p b) (k : Puts b q c) : Puts a (p ++ q) c := by
  unfold Puts at *
  by_cases ha : a.long = true
  · rw [if_pos ha] at h ⊢
    rw [if_pos h] at k
    exact k
  · rw [if_neg ha] at h ⊢
    by_cases hp : a.bs.length + p.length ≤ 262144
    · rw [if_pos hp] at h
      obtain ⟨h1, h2⟩ := h
      rw [if_neg (by simp [h1]), h2, List.length_append] at k
      rw [List.length_append]
      by_cases hq : a.bs.length + (p.length + q.length) ≤ 262144
      · rw [if_pos (by omega)] at k
        rw [if_pos hq]
        exact ⟨k.1, by rw [k.2, List.append_assoc]⟩
      · rw [if_neg (by omega)] at k
        rw [if_neg hq]
        exact k
    · rw [if_neg hp] at h
      rw [if_pos h] at k
      rw [if_neg (by rw [List.length_append]; omega)]
      exact k

theorem Wrote.trans {W0 a b c : World} {bw : Nat} {s0 s1 s2 : WSt} {p q : List UInt8} (h : Wrote W0 bw a s0 p b s1) (k : Wrote W0 bw b s1 q c s2) : Wrote W0 bw a s0 (p ++ q) c s2 := by
  refine ⟨k.own, h.put.trans k.put, h.chg.trans k.chg ?_, ?_⟩
  · rintro i hi (rfl | e)
    · exact .inl rfl
    · rcases h.row with r | ⟨j, r, hj⟩
      · rw [r] at e; exact .inr e
      · rw [r] at e; injection e with e; omega
  · rcases k.row with r | ⟨j, r, hj⟩
    · rw [r]; exact h.row
    · exact .inr ⟨j, r, Nat.le_trans h.chg.size hj⟩

/-- A block of a frame's own, that the writer does not touch. -/
structure Boxed (w : World) (bw : Nat) (st : WSt) (kb : Nat) (o : Obj) : Prop where
  at_ : w.heap[kb]? = some o
  ne : kb ≠ bw
  nr : st.r ≠ some kb
theorem Boxed.start {W0 w : World} {bw : Nat} {st : WSt} (h : WrS W0 w bw st) (o : Obj) : Boxed (w.alloc o) bw st w.heap.size o :=
  ⟨alloc_at w o, by have := h.lt; omega, fun e => by have := (h.row_lt e).2; omega⟩
theorem Boxed.next {W0 w w1 : World} {bw kb : Nat} {st st1 : WSt} {o : Obj} {p : List UInt8} (h : Boxed w bw st kb o) (k : Wrote W0 bw w st p w1 st1) : Boxed w1 bw st1 kb o := by
  refine ⟨k.chg.heap h.at_ (by rintro (e | e); exact h.ne e; exact h.nr e), h.ne, fun e => ?_⟩
  rcases k.row with r | ⟨j, r, hj⟩
  · rw [r] at e; exact h.nr e
  · rw [r] at e; injection e with e; have := lt_of_block h.at_; omega

def txt (s : ByteArray) : List UInt8 := le8 s.size ++ s2l s

set_option maxHeartbeats 400000 in
theorem text_any (W0 w : World) (bw : Nat) (st : WSt) (s : ByteArray) (h : WrS W0 w bw st) (hs : s.size ≤ Reach) :
    Calls Try.prog 23 #[.pointer (some ⟨bw, 0, none⟩), .string s] w (WPost W0 bw w st (txt s)) := by
  have hi : In64 (s.size : Int) := by unfold Reach at hs; unfold In64; omega
  have HI := Lib.hid hi; have HS := Lib.hid hs; clear hi hs
  go_enter Try.func23, Try.ntmps23
  go_wp2_with fail
  refine (num_any W0 _ bw st _ h HI.out).mono ?_
  rintro e w1 ⟨rfl, st1, q1⟩
  have h1 := q1.own
  have Q1 := Lib.hid q1; clear q1
  go_wp2_with fail
  refine (bytes_any W0 _ bw st1 _ h1 HS.out).mono ?_
  rintro e w2 ⟨rfl, st2, q2⟩
  go_wp2_with fail
  exact bodyPost_end (results_none rfl _ _ _) rfl ⟨rfl, _, Q1.out.trans q2⟩

def b2n (b : Bool) : Int := if b then 1 else 0

set_option maxHeartbeats 400000 in
theorem truth_any (W0 w : World) (bw : Nat) (st : WSt) (b : Bool) (h : WrS W0 w bw st) :
    Calls Try.prog 60 #[.pointer (some ⟨bw, 0, none⟩), .bool b] w (WPost W0 bw w st (le8 (b2n b))) := by
  cases b
  · go_enter Try.func60, Try.ntmps60
    go_wp2_with fail
    refine (num_any W0 _ bw st _ h (by unfold In64; omega)).mono ?_
    rintro e w1 ⟨rfl, st1, q1⟩
    go_wp2_with fail
    exact bodyPost_end (results_none rfl _ _ _) rfl ⟨rfl, _, q1⟩
  · go_enter Try.func60, Try.ntmps60
    go_wp2_with fail
    refine (num_any W0 _ bw st _ h (by unfold In64; omega)).mono ?_
    rintro e w1 ⟨rfl, st1, q1⟩
    go_wp2_with fail
    exact bodyPost_end (results_none rfl _ _ _) rfl ⟨rfl, _, q1⟩
end Go.Proofs.Ytghnaaahkbnhlaa
