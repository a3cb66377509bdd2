/-
  The walks of export's writer: what each method lays behind the bytes that are there. The conditions: the writer lies in memory of the call's own (WrS).
-/
import Derived.Test.YtghnaaahkbnhlaaBase
import Derived.Test.YtghnaaahkbnhlaaProg
import Derived.Test.YtghnaaahkbnhlaaApp
namespace Go.Proofs.Ytghnaaahkbnhlaa
open Go.RowKit

/-- Bytes as cells. -/
def bytesV (l : List UInt8) : List Value := l.map fun b => .int .u8 b.toNat
theorem bytesV_length (l : List UInt8) : (bytesV l).length = l.length := by simp [bytesV]
theorem bytesV_append (a b : List UInt8) : bytesV (a ++ b) = bytesV a ++ bytesV b := by simp [bytesV]

/-- The writer's state: its bytes, whether they were too many, the block of their row. -/
structure WSt where
  bs : List UInt8
  long : Bool
  r : Option Nat

/-- The writer lies at block bw, all of it in memory that W0 lacks; what W0 holds stands. -/
structure WrS (W0 w : World) (bw : Nat) (st : WSt) : Prop where
  old : Below W0.heap.size W0 w
  bw_ge : W0.heap.size ≤ bw
  at_ : ∃ v, w.heap[bw]? = some (.cells #[v, .bool st.long] 54 (0, 0)) ∧ w.ownsRow W0.heap.size 5 1 v st.bs.length (bytesV st.bs) ∧ v.ownBlock = st.r
  ne : st.r ≠ some bw
  le : st.bs.length ≤ 262144

/-- What writing p makes of the bytes. -/
def Puts (st : WSt) (p : List UInt8) (st' : WSt) : Prop :=
  if st.long = true then st'.long = true
  else if st.bs.length + p.length ≤ 262144 then st'.long = false ∧ st'.bs = st.bs ++ p
  else st'.long = true

structure Wrote (W0 : World) (bw : Nat) (w : World) (st : WSt) (p : List UInt8) (w' : World) (st' : WSt) : Prop where
  own : WrS W0 w' bw st'
  put : Puts st p st'
  chg : Chg (fun k => k = bw ∨ st.r = some k) w w'
  row : st'.r = st.r ∨ ∃ k, st'.r = some k ∧ w.heap.size ≤ k

/-- The ending of whatever writes p. -/
def WPost (W0 : World) (bw : Nat) (w : World) (st : WSt) (p : List UInt8) (e : Ending) (w' : World) : Prop := e = .returned (.tuple #[]) ∧ ∃ st', Wrote W0 bw w st p w' st'

theorem Try.info5 : (Try.prog.info? 5).map (fun i => (i.zero, i.size, i.bytes)) = some (some (.int .u8 0), 1, 1) := by kernel_rfl

def s2l (s : ByteArray) : List UInt8 := s.data.toList
theorem s2l_length (s : ByteArray) : (s2l s).length = s.size := by simp [s2l]

theorem WrS.lt {W0 w : World} {bw : Nat} {st : WSt} (h : WrS W0 w bw st) : bw < w.heap.size := by
  obtain ⟨v, hb, _⟩ := h.at_
  exact lt_of_block hb
theorem WrS.row_lt {W0 w : World} {bw : Nat} {st : WSt} (h : WrS W0 w bw st) {k : Nat} (hk : st.r = some k) : W0.heap.size ≤ k ∧ k < w.heap.size := by
  obtain ⟨v, hb, ho, hr⟩ := h.at_
  exact ho.lt k (hr.trans hk)
theorem WrS.hold {W0 w : World} {bw : Nat} {st : WSt} (h : WrS W0 w bw st) : ∀ k, (k = bw ∨ st.r = some k) → W0.heap.size ≤ k := by
  rintro k (rfl | hk)
  · exact h.bw_ge
  · exact (h.row_lt hk).1

/-- The writer's flag is set. -/
theorem wrote_long {W0 w : World} {bw : Nat} {st : WSt} {p : List UInt8} (h : WrS W0 w bw st) (hp : Puts st p { st with long := true }) :
    Wrote W0 bw w st p (w.setCell ⟨bw, 1, none⟩ (.bool true)) { st with long := true } := by
  obtain ⟨v, hb, ho, hr⟩ := h.at_
  have hc : Chg (fun k => k = bw ∨ st.r = some k) w (w.setCell ⟨bw, 1, none⟩ (.bool true)) := (Chg.refl _ _).setCell (fun _ => .inl rfl) _
  refine ⟨⟨Below.chg h.old hc h.old.size h.hold, h.bw_ge, ⟨v, by simpa using set_at hb 1 (.bool true), ?_, hr⟩, h.ne, h.le⟩, hp, hc, .inl rfl⟩
  exact ownsRow_setCell_other ho (by rw [hr]; exact h.ne) _

set_option maxHeartbeats 400000 in
theorem bytes_long (W0 w : World) (bw : Nat) (st : WSt) (s : ByteArray) (h : WrS W0 w bw st) (hl : st.long = true) :
    Calls Try.prog 22 #[.pointer (some ⟨bw, 0, none⟩), .string s] w (WPost W0 bw w st (s2l s)) := by
  obtain ⟨v, hb, ho, hr⟩ := h.at_
  have hfin := wrote_long (p := s2l s) h (by simp [Puts, hl])
  have c1 : w.cell? ⟨bw, 1, none⟩ = some (.bool true) := by rw [cell_at hb]; simp [hl]
  have f1 : w.frozen? ⟨bw, 1, none⟩ = false := free_at hb 1
  have H := Lib.hid hfin; clear hfin
  clear hl hb
  go_enter Try.func22, Try.ntmps22
  go_wp2
  refine bodyPost_ret (results_none rfl _ _ _) rfl ⟨rfl, _, H.out⟩

set_option maxHeartbeats 400000 in
theorem bytes_over (W0 w : World) (bw : Nat) (st : WSt) (s : ByteArray) (h : WrS W0 w bw st) (hl : st.long = false) (hs : s.size ≤ Reach) (hov : 262144 < st.bs.length + s.size) :
    Calls Try.prog 22 #[.pointer (some ⟨bw, 0, none⟩), .string s] w (WPost W0 bw w st (s2l s)) := by
  obtain ⟨v, hb, ho, hr⟩ := h.at_
  have hfin := wrote_long (p := s2l s) h (by simp [Puts, hl, s2l_length]; omega)
  obtain ⟨A, c, hv⟩ := own_slice ho
  subst hv
  have hle := h.le
  unfold Reach at hs
  have c0 : w.cell? ⟨bw, 0, none⟩ = some (.slice A st.bs.length c) := by rw [cell_at hb]; simp
  have c1 : w.cell? ⟨bw, 1, none⟩ = some (.bool false) := by rw [cell_at hb]; simp [hl]
  have f1 : w.frozen? ⟨bw, 1, none⟩ = false := free_at hb 1
  have H := Lib.hid hfin; clear hfin
  clear hl hb
  go_enter Try.func22, Try.ntmps22
  go_wp2
  refine bodyPost_ret (results_none rfl _ _ _) rfl ⟨rfl, _, H.out⟩

theorem strCells_s2l (s : ByteArray) : Lib.strCells s = bytesV (s2l s) := rfl

/-- The bytes have been laid. -/
theorem wrote_fits {W0 w w1 : World} {bw : Nat} {st : WSt} {s : ByteArray} {v1 : Value} (h : WrS W0 w bw st) (hl : st.long = false) (hov : st.bs.length + s.size ≤ 262144)
    (h1 : w1.ownsRow W0.heap.size 5 1 v1 (st.bs.length + s.size) (bytesV st.bs ++ Lib.strCells s)) (g1 : w.grownBy w1 st.r) (r1 : v1.ownBlock = st.r ∨ v1.ownBlock = some w.heap.size) :
    Wrote W0 bw w st (s2l s) (w1.setCell ⟨bw, 0, none⟩ v1) { bs := st.bs ++ s2l s, long := false, r := v1.ownBlock } := by
  obtain ⟨v, hb, ho, hr⟩ := h.at_
  have hlt := h.lt
  have hb1 : w1.heap[bw]? = some (.cells #[v, .bool st.long] 54 (0, 0)) := by rw [g1.block bw hlt (fun e => h.ne e.symm)]; exact hb
  have hc : Chg (fun k => k = bw ∨ st.r = some k) w (w1.setCell ⟨bw, 0, none⟩ v1) := ((Chg.refl _ _).grown g1 (fun k _ e => .inr e)).setCell (fun _ => .inl rfl) _
  have hne : v1.ownBlock ≠ some bw := by
    rcases r1 with e | e
    · rw [e]; exact h.ne
    · rw [e]; intro q; injection q with q; omega
  refine ⟨⟨Below.chg h.old hc h.old.size h.hold, h.bw_ge, ⟨v1, by simpa [hl] using set_at hb1 0 v1, ?_, rfl⟩, hne, by simp [s2l_length]; omega⟩, ?_, hc, ?_⟩
  · have := ownsRow_setCell_other (a := ⟨bw, 0, none⟩) h1 hne v1
    simpa [s2l_length, bytesV_append, strCells_s2l] using this
  · simp only [Puts, hl, s2l_length]
    rw [if_neg (by simp), if_pos hov]
    exact ⟨trivial, trivial⟩
  · rcases r1 with e | e
    · exact .inl e
    · exact .inr ⟨_, e, Nat.le_refl _⟩

set_option maxHeartbeats 400000 in
theorem bytes_fits (W0 w : World) (bw : Nat) (st : WSt) (s : ByteArray) (h : WrS W0 w bw st) (hl : st.long = false) (hov : st.bs.length + s.size ≤ 262144) :
    Calls Try.prog 22 #[.pointer (some ⟨bw, 0, none⟩), .string s] w (WPost W0 bw w st (s2l s)) := by
  obtain ⟨v, hb, ho, hr⟩ := h.at_
  obtain ⟨A, c, hv⟩ := own_slice ho
  subst hv
  have hsz := h.old.size
  have hlt := h.lt
  have hne := h.ne
  have HR := Lib.hid hr; clear hr
  have c0 : w.cell? ⟨bw, 0, none⟩ = some (.slice A st.bs.length c) := by rw [cell_at hb]; simp
  have c1 : w.cell? ⟨bw, 1, none⟩ = some (.bool false) := by rw [cell_at hb]; simp [hl]
  have HB := Lib.hid hb; clear hb
  have HL := Lib.hid hl; clear hl
  have hm : ((st.bs.length : Int) + (s.size : Int)) ≤ 262144 := by omega
  go_enter Try.func22, Try.ntmps22
  go_wp2_with (at_builtin; go_loud (refine wpList_append_str _ rfl _ _ 22 9 rfl W0.heap.size 5 Try.info5 Try.underlying22 Try.underlying9 (.slice A st.bs.length c) st.bs.length (bytesV st.bs) rfl ho s rfl (by omega) hsz ?_; intro v1 w1 h1 g1 r1; obtain ⟨A1, k1, rfl⟩ := own_slice h1; rw [HR.out] at g1 r1; have hb1 : w1.heap[bw]? = _ := (g1.block bw hlt (fun e => hne e.symm)).trans HB.out; have c10 : w1.cell? ⟨bw, 0, none⟩ = some (.slice A st.bs.length c) := (cell_at hb1 0).trans rfl; have f10 := free_at hb1 0; have HF := Lib.hid (wrote_fits h HL.out hov h1 g1 r1); clear hb1 h1 g1 r1))
  refine bodyPost_end (results_none rfl _ _ _) rfl ⟨rfl, _, HF.out⟩

theorem bytes_any (W0 w : World) (bw : Nat) (st : WSt) (s : ByteArray) (h : WrS W0 w bw st) (hs : s.size ≤ Reach) :
    Calls Try.prog 22 #[.pointer (some ⟨bw, 0, none⟩), .string s] w (WPost W0 bw w st (s2l s)) := by
  cases hl : st.long with
  | true => exact bytes_long W0 w bw st s h hl
  | false =>
    by_cases hov : st.bs.length + s.size ≤ 262144
    · exact bytes_fits W0 w bw st s h hl hov
    · exact bytes_over W0 w bw st s h hl hs (by omega)

end Go.Proofs.Ytghnaaahkbnhlaa
