/-
  The walks of the document's Writer (mortiseref8): Full, Num, Text, Bool, in. The conditions: the writer lies in memory of the call's own (RwS); its bytes stay within the reach.
-/
import Derived.Test.YtghnaaahkbnhlaaEncB
import Derived.Test.YtghnaaahkbnhlaaAppZ
import Derived.Maps.AppendAt
namespace Go.Proofs.Ytghnaaahkbnhlaa
open Go.RowKit Go.Lib
set_option linter.unusedVariables false
set_option linter.unusedSimpArgs false

theorem wpList_append_byte {P : Program} (w : World) {ops : Array Oper} {rest : List Oper} {o : Oper} {a : Act} {Q : Exit → Act → World → Prop} (hgd : o.guard = none) (sl x : Operand) (t : TypeId)
    (ho : o.op = .call { callee := .builtin .append, args := #[sl, x], argTypes := #[t, t] })
    (base : Nat) (e : TypeId) (hinfo : (P.info? e).map (fun i => (i.zero, i.size, i.bytes)) = some (some (.int .u8 0), 1, 1)) (ht : P.underlying t = some (.slice e))
    (v : Value) (n : Nat) (xs : List Value) (hs : a.eval sl = v) (hown : w.ownsRow base e 1 v n xs) (b c : Nat) (u : Int) (hx : a.eval x = .slice (some ⟨b, 0, none⟩) 1 c) (hc : w.cell? ⟨b, 0, none⟩ = some (.int .u8 u))
    (hbytes : n + 1 ≤ 140737488355328) (hbase : base ≤ w.heap.size)
    (h : ∀ v' w', w'.ownsRow base e 1 v' (n + 1) (xs ++ [.int .u8 u]) → w.grownBy w' v.ownBlock → (v'.ownBlock = v.ownBlock ∨ v'.ownBlock = some w.heap.size) → wpList P ops Q rest (a.put o.dst v') w') : wpList P ops Q (o :: rest) a w := by
  obtain ⟨i, hi, hz, hsize, hby⟩ := info_parts hinfo
  refine Go.wpList_append_own_at (P := P) w hgd sl x t ho base e i (.int .u8 0) 1 1 ht hi hz hsize hby rfl (by omega) v n xs hs hown ⟨b, 0, none⟩ 1 c [.int .u8 u] hx rfl (fun j q hj => ?_) (fun q hq => by simp at hq; subst hq; rfl) (by simp only [maxLen]; omega) (by omega) hbase (fun v' w' h1 h2 _ h4 => h v' w' h1 h2 h4)
  cases j with
  | zero => simp at hj; subst hj; simpa [Addr.add] using hc
  | succ j => simp at hj

/-- The document's writer: its bytes, whether something was too deep, how deep it is, the block of its row. -/
structure RSt where
  bs : List UInt8
  deep : Bool
  dp : Int
  r : Option Nat

/-- The bytes that are kept, and those that there would be: one, or both too many. -/
def Ideal (l q : List UInt8) : Prop := (l = q ∧ q.length ≤ 262144) ∨ (262144 < l.length ∧ 262144 < q.length)

structure RwS (W0 w : World) (bw : Nat) (st : RSt) : Prop where
  old : Below W0.heap.size W0 w
  bw_ge : W0.heap.size ≤ bw
  at_ : ∃ v, w.heap[bw]? = some (.cells #[v, .bool st.deep, .int .i64 st.dp] 74 (0, 0)) ∧ w.ownsRow W0.heap.size 5 1 v st.bs.length (bytesV st.bs) ∧ v.ownBlock = st.r
  ne : st.r ≠ some bw

/-- What is written: the bytes p where nothing is too deep; at most c more; d: is something too deep? -/
structure RWr (W0 : World) (bw : Nat) (w : World) (st : RSt) (p : List UInt8) (c : Nat) (d : Bool) (w' : World) (st' : RSt) : Prop where
  own : RwS W0 w' bw st'
  dp_eq : st'.dp = st.dp
  deep_eq : st'.deep = (st.deep || d)
  len : st'.bs.length ≤ st.bs.length + c
  put : st'.deep = false → ∀ q, Ideal st.bs q → Ideal st'.bs (q ++ p)
  chg : Chg (fun k => k = bw ∨ st.r = some k) w w'
  row : st'.r = st.r ∨ ∃ k, st'.r = some k ∧ w.heap.size ≤ k

def RPost (W0 : World) (bw : Nat) (w : World) (st : RSt) (p : List UInt8) (c : Nat) (d : Bool) (e : Ending) (w' : World) : Prop := e = .returned (.tuple #[]) ∧ ∃ st', RWr W0 bw w st p c d w' st'

theorem RwS.lt {W0 w : World} {bw : Nat} {st : RSt} (h : RwS W0 w bw st) : bw < w.heap.size := by
  obtain ⟨v, hb, _⟩ := h.at_
  exact lt_of_block hb
theorem RwS.row_lt {W0 w : World} {bw : Nat} {st : RSt} (h : RwS W0 w bw st) {k : Nat} (hk : st.r = some k) : W0.heap.size ≤ k ∧ k < w.heap.size := by
  obtain ⟨v, hb, ho, hr⟩ := h.at_
  exact ho.lt k (hr.trans hk)
theorem RwS.hold {W0 w : World} {bw : Nat} {st : RSt} (h : RwS W0 w bw st) : ∀ k, (k = bw ∨ st.r = some k) → W0.heap.size ≤ k := by
  rintro k (rfl | hk)
  · exact h.bw_ge
  · exact (h.row_lt hk).1
theorem RwS.grow {W0 w wr : World} {bw : Nat} {st : RSt} (h : RwS W0 w bw st) (k : Chg (fun _ => False) w wr) : RwS W0 wr bw st := by
  obtain ⟨v, hb, ho, hr⟩ := h.at_
  exact ⟨Below.chg h.old k h.old.size (fun _ q => q.elim), h.bw_ge, ⟨v, k.heap hb id, ho.kept ⟨k.os, k.tape, k.output, k.size, fun i hi _ => k.block i hi id⟩ (row := none) (by cases v.ownBlock <;> simp), hr⟩, h.ne⟩
theorem RWr.after {W0 w wr w' : World} {bw : Nat} {st st' : RSt} {p : List UInt8} {c : Nat} {d : Bool} (k : Chg (fun _ => False) w wr) (h : RWr W0 bw wr st p c d w' st') : RWr W0 bw w st p c d w' st' :=
  ⟨h.own, h.dp_eq, h.deep_eq, h.len, h.put, k.mono (fun _ _ q => q.elim) |>.trans h.chg (fun _ _ q => q), h.row.imp id (fun ⟨i, e, hi⟩ => ⟨i, e, Nat.le_trans k.size hi⟩)⟩
theorem RWr.trans {W0 a b c : World} {bw : Nat} {s0 s1 s2 : RSt} {p q : List UInt8} {m n : Nat} {d e : Bool} (h : RWr W0 bw a s0 p m d b s1) (k : RWr W0 bw b s1 q n e c s2) : RWr W0 bw a s0 (p ++ q) (m + n) (d || e) c s2 := by
  refine ⟨k.own, k.dp_eq.trans h.dp_eq, by rw [k.deep_eq, h.deep_eq, Bool.or_assoc], by have := h.len; have := k.len; omega, fun hd x hx => ?_, h.chg.trans k.chg ?_, ?_⟩
  · have h1 : s1.deep = false := by
      have := k.deep_eq
      rw [hd] at this
      cases hs : s1.deep with
      | false => rfl
      | true => rw [hs] at this; simp at this
    rw [← List.append_assoc]
    exact k.put hd _ (h.put h1 x hx)
  · rintro i hi (rfl | e)
    · exact .inl rfl
    · rcases h.row with r | ⟨j, r, hj⟩
      · rw [r] at e; exact .inr e
      · rw [r] at e; injection e with e; omega
  · rcases k.row with r | ⟨j, r, hj⟩
    · rw [r]; exact h.row
    · exact .inr ⟨j, r, Nat.le_trans h.chg.size hj⟩
theorem RWr.nothing {W0 w : World} {bw : Nat} {st : RSt} (h : RwS W0 w bw st) : RWr W0 bw w st [] 0 false w st :=
  ⟨h, rfl, by simp, Nat.le_refl _, fun _ q hq => by simpa using hq, Chg.refl _ _, .inl rfl⟩
theorem RWr.as {W0 w w' : World} {bw : Nat} {st st' : RSt} {p p' : List UInt8} {c c' : Nat} {d d' : Bool} (h : RWr W0 bw w st p c d w' st') (hp : p = p') (hc : c ≤ c') (hd : d = d') : RWr W0 bw w st p' c' d' w' st' := by
  subst hp hd
  exact ⟨h.own, h.dp_eq, h.deep_eq, Nat.le_trans h.len (by omega), h.put, h.chg, h.row⟩

/-- A block of a frame's own, that the writer does not touch. -/
structure RBoxed (w : World) (bw : Nat) (st : RSt) (kb : Nat) (o : Obj) : Prop where
  at_ : w.heap[kb]? = some o
  ne : kb ≠ bw
  nr : st.r ≠ some kb
theorem RBoxed.start {W0 w : World} {bw : Nat} {st : RSt} (h : RwS W0 w bw st) (o : Obj) : RBoxed (w.alloc o) bw st w.heap.size o :=
  ⟨alloc_at w o, by have := h.lt; omega, fun e => by have := (h.row_lt e).2; omega⟩
theorem RBoxed.next {W0 w w1 : World} {bw kb : Nat} {st st1 : RSt} {o : Obj} {p : List UInt8} {c : Nat} {d : Bool} (h : RBoxed w bw st kb o) (k : RWr W0 bw w st p c d w1 st1) : RBoxed w1 bw st1 kb o := by
  refine ⟨k.chg.heap h.at_ (by rintro (e | e); exact h.ne e; exact h.nr e), h.ne, fun e => ?_⟩
  rcases k.row with r | ⟨j, r, hj⟩
  · rw [r] at e; exact h.nr e
  · rw [r] at e; injection e with e; have := lt_of_block h.at_; omega

theorem own_grow {w wr : World} {b n : Nat} {e : TypeId} {v : Value} {xs : List Value} (k : Chg (fun _ => False) w wr) (ho : w.ownsRow b e 1 v n xs) : wr.ownsRow b e 1 v n xs :=
  ho.kept ⟨k.os, k.tape, k.output, k.size, fun i hi _ => k.block i hi id⟩ (row := none) (by cases v.ownBlock <;> simp)
/-- A new row of bytes is laid into the writer. -/
theorem rw_store {W0 w wA w1 : World} {bw : Nat} {st : RSt} {l : List UInt8} {v1 : Value} (h : RwS W0 w bw st) (hA : Chg (fun _ => False) w wA)
    (h1 : w1.ownsRow W0.heap.size 5 1 v1 l.length (bytesV l)) (g1 : wA.grownBy w1 st.r) (r1 : v1.ownBlock = st.r ∨ v1.ownBlock = some wA.heap.size) :
    RwS W0 (w1.setCell ⟨bw, 0, none⟩ v1) bw { st with bs := l, r := v1.ownBlock } ∧ Chg (fun k => k = bw ∨ st.r = some k) w (w1.setCell ⟨bw, 0, none⟩ v1) ∧
    (v1.ownBlock = st.r ∨ ∃ k, v1.ownBlock = some k ∧ w.heap.size ≤ k) := by
  have hA' := h.grow hA
  obtain ⟨v, hb, ho, hr⟩ := hA'.at_
  have hlt := hA'.lt
  have hb1 : w1.heap[bw]? = some (.cells #[v, .bool st.deep, .int .i64 st.dp] 74 (0, 0)) := by rw [g1.block bw hlt (fun e => h.ne e.symm)]; exact hb
  have hc : Chg (fun k => k = bw ∨ st.r = some k) w (w1.setCell ⟨bw, 0, none⟩ v1) :=
    ((hA.mono (fun _ _ q => q.elim)).grown g1 (fun k _ e => .inr e)).setCell (fun _ => .inl rfl) _
  have hne : v1.ownBlock ≠ some bw := by
    rcases r1 with e | e
    · rw [e]; exact h.ne
    · rw [e]; intro q; injection q with q; omega
  refine ⟨⟨Below.chg h.old hc h.old.size h.hold, h.bw_ge, ⟨v1, by simpa using set_at hb1 0 v1, ?_, rfl⟩, hne⟩, hc, ?_⟩
  · exact ownsRow_setCell_other (a := ⟨bw, 0, none⟩) h1 hne v1
  · rcases r1 with e | e
    · exact .inl e
    · exact .inr ⟨_, e, hA.size⟩

theorem full_any (W0 w : World) (bw : Nat) (st : RSt) (h : RwS W0 w bw st) (hl : st.bs.length ≤ 100000000000000) :
    Calls Try.prog 38 #[.pointer (some ⟨bw, 0, none⟩)] w fun e w' => e = .returned (.bool (decide (262144 < st.bs.length))) ∧ w = w' := by
  obtain ⟨v, hb, ho, hr⟩ := h.at_
  obtain ⟨A, c, hv⟩ := own_slice ho
  subst hv
  have c0 : w.cell? ⟨bw, 0, none⟩ = some (.slice A st.bs.length c) := by rw [cell_at hb]; simp
  clear hb ho
  by_cases hf : 262144 < st.bs.length
  · have D := Lib.hid (decide_eq_true hf)
    have hf' : (262144 : Int) < (st.bs.length : Int) := by omega
    go_enter Try.func38, Try.ntmps38
    go_wp2_with fail
    exact bodyPost_ret (results_tmp rfl _ _ _) rfl ⟨by first | rfl | (rw [D.out]; rfl), rfl⟩
  · have D := Lib.hid (decide_eq_false hf)
    have hf' : ¬ ((262144 : Int) < (st.bs.length : Int)) := by omega
    go_enter Try.func38, Try.ntmps38
    go_wp2_with fail
    exact bodyPost_ret (results_tmp rfl _ _ _) rfl ⟨by first | rfl | (rw [D.out]; rfl), rfl⟩

/-- k bytes of the eight are laid. -/
structure RNum (W0 : World) (bw : Nat) (w : World) (st : RSt) (v : Int) (k : Nat) (wr : World) (st' : RSt) : Prop where
  own : RwS W0 wr bw st'
  dp_eq : st'.dp = st.dp
  deep_eq : st'.deep = st.deep
  bs_eq : st'.bs = st.bs ++ (le8 v).take k
  chg : Chg (fun k => k = bw ∨ st.r = some k) w wr
  row : st'.r = st.r ∨ ∃ k, st'.r = some k ∧ w.heap.size ≤ k
def RNumAt (W0 : World) (bw : Nat) (w : World) (st : RSt) (v : Int) (k : Nat) (wr : World) : Prop := ∃ st', RNum W0 bw w st v k wr st'
theorem RNum.start {W0 w : World} {bw : Nat} {st : RSt} (h : RwS W0 w bw st) (v : Int) : RNumAt W0 bw w st v 0 w := ⟨st, h, rfl, rfl, by simp, Chg.refl _ _, .inl rfl⟩
theorem RNum.next {W0 w wr wA w1 : World} {bw k : Nat} {st st' : RSt} {v : Int} {v1 : Value} (h : RNum W0 bw w st v k wr st') (hk : k < 8) (hA : Chg (fun _ => False) wr wA)
    (h1 : w1.ownsRow W0.heap.size 5 1 v1 (st'.bs.length + 1) (bytesV st'.bs ++ [.int .u8 ((byteAt v k).toNat : Int)])) (g1 : wA.grownBy w1 st'.r) (r1 : v1.ownBlock = st'.r ∨ v1.ownBlock = some wA.heap.size) :
    RNumAt W0 bw w st v (k + 1) (w1.setCell ⟨bw, 0, none⟩ v1) := by
  have e : bytesV st'.bs ++ [.int .u8 ((byteAt v k).toNat : Int)] = bytesV (st'.bs ++ [byteAt v k]) := by rw [bytesV_append]; rfl
  rw [e, show st'.bs.length + 1 = (st'.bs ++ [byteAt v k]).length by simp] at h1
  obtain ⟨q1, q2, q3⟩ := rw_store h.own hA h1 g1 r1
  refine ⟨_, q1, h.dp_eq, h.deep_eq, ?_, h.chg.trans q2 ?_, ?_⟩
  · show st'.bs ++ [byteAt v k] = _
    rw [h.bs_eq, List.append_assoc, List.take_succ_eq_append_getElem (by rw [le8_length]; exact hk)]
    simp [le8]
  · rintro i hi (rfl | e)
    · exact .inl rfl
    · rcases h.row with r | ⟨j, r, hj⟩
      · rw [r] at e; exact .inr e
      · rw [r] at e; injection e with e; omega
  · rcases q3 with r | ⟨j, r, hj⟩
    · exact r ▸ h.row
    · exact .inr ⟨j, r, Nat.le_trans h.chg.size hj⟩
theorem RNum.done {W0 w wr : World} {bw : Nat} {st st' : RSt} {v : Int} (h : RNum W0 bw w st v 8 wr st') (hf : st.bs.length ≤ 262144) : RWr W0 bw w st (le8 v) 8 false wr st' := by
  have hb := h.bs_eq
  rw [List.take_of_length_le (by rw [le8_length]; omega)] at hb
  refine ⟨h.own, h.dp_eq, by simp [h.deep_eq], by rw [hb]; simp [le8_length], fun _ q hq => ?_, h.chg, h.row⟩
  rcases hq with ⟨rfl, _⟩ | ⟨h1, _⟩
  · rw [hb]
    by_cases hl : (st.bs ++ le8 v).length ≤ 262144
    · exact .inl ⟨rfl, hl⟩
    · exact .inr ⟨by omega, by omega⟩
  · omega
/-- There are too many already. -/
theorem RWr.full {W0 w : World} {bw : Nat} {st : RSt} (h : RwS W0 w bw st) (hf : 262144 < st.bs.length) (p : List UInt8) (c : Nat) : RWr W0 bw w st p c false w st :=
  ⟨h, rfl, by simp, by omega, fun _ q hq => by
    rcases hq with ⟨rfl, h1⟩ | ⟨h1, h2⟩
    · omega
    · exact .inr ⟨h1, by rw [List.length_append]; omega⟩, Chg.refl _ _, .inl rfl⟩

theorem byte_next (v : Int) (k : Nat) (x : Int) (hx : x = IntKind.u64.wrap v / 2 ^ (8 * k)) : IntKind.u8.wrap x = ((byteAt v k).toNat : Int) ∧ x / 256 = IntKind.u64.wrap v / 2 ^ (8 * (k + 1)) ∧ 0 ≤ x ∧ x ≤ 18446744073709551615 := by
  have hw0 : 0 ≤ IntKind.u64.wrap v ∧ IntKind.u64.wrap v < 18446744073709551616 := by
    simp only [IntKind.wrap, IntKind.bits, IntKind.signed]; simp; omega
  have hp : (0 : Int) < 2 ^ (8 * k) := Int.pow_pos (by decide)
  have hx0 : 0 ≤ x := by rw [hx]; exact Int.ediv_nonneg hw0.1 (Int.le_of_lt hp)
  have hx1 : x ≤ IntKind.u64.wrap v := by rw [hx]; exact Int.ediv_le_self _ hw0.1
  refine ⟨?_, ?_, hx0, by omega⟩
  · rw [byteAt_toNat, ← hx, IntKind.wrap_u8]
  · rw [hx, Int.ediv_ediv_of_nonneg (Int.le_of_lt hp), show 8 * (k + 1) = 8 * k + 8 from by omega, Int.pow_add]
    rfl

set_option maxRecDepth 100000 in
set_option maxHeartbeats 1600000 in
theorem rnum_any (W0 w : World) (bw : Nat) (st : RSt) (v : Int) (h : RwS W0 w bw st) (hv : In64 v) (hl : st.bs.length + 8 ≤ 100000000000000) :
    Calls Try.prog 35 #[.pointer (some ⟨bw, 0, none⟩), .int .i64 v] w (RPost W0 bw w st (le8 v) 8 false) := by
  have H := Lib.hid h
  have HL := Lib.hid hl
  by_cases hf : 262144 < st.bs.length
  · clear h
    go_enter Try.func35, Try.ntmps35
    go_wp2_with fail
    refine (full_any W0 _ bw st H.out (by have := HL.out; omega)).mono ?_
    rintro e w1 ⟨rfl, rfl⟩
    rw [decide_eq_true hf]
    go_wp2_with fail
    exact bodyPost_ret (results_none rfl _ _ _) rfl ⟨rfl, _, RWr.full H.out hf _ _⟩
  · have HF := Lib.hid (show st.bs.length ≤ 262144 by omega)
    obtain ⟨h1, h2⟩ := hv
    go_enter Try.func35, Try.ntmps35
    go_wp2_with fail
    refine (full_any W0 _ bw st H.out (by have := HL.out; omega)).mono ?_
    rintro e w1 ⟨rfl, rfl⟩
    rw [decide_eq_false hf]
    clear hf h hl
    go_wp2_with fail
    go_loopw [4, 5] (fun u i wr => ∃ (k : Nat) (x : Int), k ≤ 8 ∧ i = .int .i64 k ∧ u = .int .u64 x ∧ x = IntKind.u64.wrap v / 2 ^ (8 * k) ∧ RNumAt W0 bw w st v k wr) (fun u i _ => 8 - (intOf i).toNat)
    case atStart => exact ⟨0, _, by omega, rfl, rfl, by simp, RNum.start H.out v⟩
    case round =>
      obtain ⟨k, x, hk, rfl, rfl, hx, st', hw⟩ := hrel
      by_cases hlt : k < 8
      · obtain ⟨b1, b2, b3, b4⟩ := byte_next v k x hx
        have HX := Lib.hid hx; have HB2 := Lib.hid b2; clear hx b2
        obtain ⟨v0, hb, ho, hr⟩ := hw.own.at_
        obtain ⟨A, c, hv⟩ := own_slice ho
        subst hv
        have c0 : wr.cell? ⟨bw, 0, none⟩ = some (.slice A st'.bs.length c) := by rw [cell_at hb]; simp
        have hi' : (k : Int) < 8 := by omega
        have hA : Chg (fun _ => False) wr (wr.alloc (.cells #[.int .u8 ((byteAt v k).toNat : Int)] 5)) := (Chg.refl _ _).alloc _
        have hoA := own_grow hA ho
        have hbA := hA.heap hb id
        have hcA : (wr.alloc (.cells #[.int .u8 ((byteAt v k).toNat : Int)] 5)).cell? ⟨wr.heap.size, 0, none⟩ = some (.int .u8 ((byteAt v k).toNat : Int)) := (cell_at (alloc_at wr _) 0).trans rfl
        have hsz : W0.heap.size ≤ (wr.alloc (.cells #[.int .u8 ((byteAt v k).toNat : Int)] 5)).heap.size := Nat.le_trans hw.own.old.size hA.size
        have hltA : bw < (wr.alloc (.cells #[.int .u8 ((byteAt v k).toNat : Int)] 5)).heap.size := lt_of_block hbA
        have hne := hw.own.ne
        have hln : st'.bs.length + 1 ≤ 140737488355328 := by
          have := HL.out
          rw [hw.bs_eq, List.length_append, List.length_take]
          omega
        have HOA := Lib.hid hoA; have HBA := Lib.hid hbA; have HCA := Lib.hid hcA; have HSZ := Lib.hid hsz; have HLT := Lib.hid hltA; have HNE := Lib.hid hne; have HLN := Lib.hid hln; have HR := Lib.hid hr; have HA := Lib.hid hA
        have HW := Lib.hid hw
        clear hoA hbA hcA hsz hltA hne hln hr hA ho hb hw
        go_wp2_with (at_builtin; go_loud (refine wpList_append_byte _ rfl _ _ 22 rfl W0.heap.size 5 Try.info5 Try.underlying22 (.slice A st'.bs.length c) st'.bs.length (bytesV st'.bs) rfl HOA.out wr.heap.size 1 _ rfl HCA.out HLN.out HSZ.out ?_; intro v1 w1 h1 g1 r1; obtain ⟨A1, k1, rfl⟩ := own_slice h1; rw [HR.out] at g1 r1; have hb1 : w1.heap[bw]? = _ := (g1.block bw HLT.out (fun e => HNE.out e.symm)).trans HBA.out; have c10 : w1.cell? ⟨bw, 0, none⟩ = some (.slice A st'.bs.length c) := (cell_at hb1 0).trans rfl; have f10 := free_at hb1 0; have HN := Lib.hid (RNum.next HW.out hlt HA.out h1 g1 r1); clear hb1 h1 g1 r1))
        go_roundw
        case rel => exact ⟨k + 1, x / 256, by omega, by go_num, rfl, HB2.out, HN.out⟩
        case measure => simp [intOf]; omega
      · obtain rfl : k = 8 := by omega
        have hi' : ¬ ((8 : Nat) : Int) < 8 := by omega
        have HW := Lib.hid hw; clear hw hx
        go_wp2_with fail
        exact bodyPost_end (results_none rfl _ _ _) rfl ⟨rfl, _, RNum.done HW.out HF.out⟩

theorem RWr.text {W0 w wA w1 : World} {bw : Nat} {st : RSt} {l p : List UInt8} {v1 : Value} {c : Nat} (h : RwS W0 w bw st) (hA : Chg (fun _ => False) w wA)
    (h1 : w1.ownsRow W0.heap.size 5 1 v1 l.length (bytesV l)) (g1 : wA.grownBy w1 st.r) (r1 : v1.ownBlock = st.r ∨ v1.ownBlock = some wA.heap.size)
    (hc : l.length ≤ st.bs.length + c) (hput : ∀ q, Ideal st.bs q → Ideal l (q ++ p)) : RWr W0 bw w st p c false (w1.setCell ⟨bw, 0, none⟩ v1) { st with bs := l, r := v1.ownBlock } := by
  obtain ⟨q1, q2, q3⟩ := rw_store h hA h1 g1 r1
  exact ⟨q1, rfl, by simp, hc, fun _ => hput, q2, q3⟩

set_option maxRecDepth 100000 in
set_option maxHeartbeats 1600000 in
theorem rtext_any (W0 w : World) (bw : Nat) (st : RSt) (s : ByteArray) (h : RwS W0 w bw st) (hs : s.size ≤ Reach) (hl : st.bs.length + 262153 ≤ 100000000000000) :
    Calls Try.prog 33 #[.pointer (some ⟨bw, 0, none⟩), .string s] w (RPost W0 bw w st (txt s) 262153 false) := by
  have HI := Lib.hid (show In64 (s.size : Int) from by unfold Reach at hs; unfold In64; omega)
  unfold Reach at hs
  have HL := Lib.hid hl
  have HS0 := Lib.hid hs
  have hs0 : (s.size : Int) ≤ 140737488351232 := by omega
  by_cases hbig : 262144 < s.size
  · have hb0 : (262144 : Int) < (s.size : Int) := by omega
    go_enter Try.func33, Try.ntmps33
    go_wp2_with fail
    refine (rnum_any W0 _ bw st _ h HI.out (by have := HL.out; omega)).mono ?_
    rintro e w1 ⟨rfl, st1, q1⟩
    obtain ⟨v0, hb, ho, hr⟩ := q1.own.at_
    obtain ⟨A, c, hv⟩ := own_slice ho
    subst hv
    have c0 : w1.cell? ⟨bw, 0, none⟩ = some (.slice A st1.bs.length c) := by rw [cell_at hb]; simp
    have hln : st1.bs.length + 262145 ≤ 140737488355328 := by have := q1.len; have := HL.out; omega
    have HB := Lib.hid hb; have HO := Lib.hid ho; have HR := Lib.hid hr; have HNE := Lib.hid q1.own.ne; have HLT := Lib.hid q1.own.lt; have HSZ := Lib.hid q1.own.old.size; have HLN := Lib.hid hln
    have Q1 := Lib.hid q1
    clear hb ho hr q1 hln h hl hs
    go_wp2_with (at_builtin; go_loud (refine wpList_append_zeros _ rfl _ _ 22 3 rfl W0.heap.size 5 .i64 .i64 Try.info5 Try.underlying22 Try.underlying3 (.slice A st1.bs.length c) st1.bs.length (bytesV st1.bs) rfl HO.out 262145 (by omega) rfl HLN.out HSZ.out ?_; intro v1 w2 h1 g1 r1; obtain ⟨A1, k1, rfl⟩ := own_slice h1; rw [HR.out] at g1 r1; have hb1 : w2.heap[bw]? = _ := (g1.block bw HLT.out (fun e => HNE.out e.symm)).trans HB.out; have c10 : w2.cell? ⟨bw, 0, none⟩ = some (.slice A st1.bs.length c) := (cell_at hb1 0).trans rfl; have f10 := free_at hb1 0; have H1 := Lib.hid h1; have G1 := Lib.hid g1; have R1 := Lib.hid r1; clear hb1 h1 g1 r1))
    refine bodyPost_ret (results_none rfl _ _ _) rfl ⟨rfl, _, (Q1.out.trans (RWr.text (l := st1.bs ++ List.replicate 262145 0) (p := s2l s) (c := 262145) Q1.out.own (Chg.refl _ _) ?_ G1.out R1.out (Nat.le_of_eq (by rw [List.length_append, List.length_replicate])) (fun q hq => .inr ⟨?_, ?_⟩))).as rfl (Nat.le_refl 262153) rfl⟩
    · have := H1.out
      rw [bytesV_append, List.length_append, List.length_replicate, bytesV, bytesV, List.map_replicate, show ((0 : UInt8).toNat : Int) = 0 from rfl]
      exact this
    · rw [List.length_append, List.length_replicate]; omega
    · rw [List.length_append, s2l_length]; omega
  · have hb0 : ¬ ((262144 : Int) < (s.size : Int)) := by omega
    have HBIG := Lib.hid hbig
    go_enter Try.func33, Try.ntmps33
    go_wp2_with fail
    refine (rnum_any W0 _ bw st _ h HI.out (by have := HL.out; omega)).mono ?_
    rintro e w1 ⟨rfl, st1, q1⟩
    have hln1 : st1.bs.length ≤ 100000000000000 := by have := q1.len; have := HL.out; omega
    have HLN1 := Lib.hid hln1
    have Q1 := Lib.hid q1
    clear q1 h hl hs hln1 hbig
    go_wp2_with fail
    refine (full_any W0 _ bw st1 Q1.out.own HLN1.out).mono ?_
    rintro e w2 ⟨rfl, rfl⟩
    by_cases hf : 262144 < st1.bs.length
    · rw [decide_eq_true hf]
      go_wp2_with fail
      exact bodyPost_end (results_none rfl _ _ _) rfl ⟨rfl, _, (Q1.out.trans (RWr.full Q1.out.own hf (s2l s) 262145)).as rfl (Nat.le_refl 262153) rfl⟩
    · rw [decide_eq_false hf]
      have HF := Lib.hid hf
      obtain ⟨v0, hb, ho, hr⟩ := Q1.out.own.at_
      obtain ⟨A, c, hv⟩ := own_slice ho
      subst hv
      have c0 : w1.cell? ⟨bw, 0, none⟩ = some (.slice A st1.bs.length c) := by rw [cell_at hb]; simp
      have HB := Lib.hid hb; have HO := Lib.hid ho; have HR := Lib.hid hr; have HNE := Lib.hid Q1.out.own.ne; have HLT := Lib.hid Q1.out.own.lt; have HSZ := Lib.hid Q1.out.own.old.size
      clear hb ho hr hf
      go_wp2_with (at_builtin; go_loud (refine wpList_append_str _ rfl _ _ 22 9 rfl W0.heap.size 5 Try.info5 Try.underlying22 Try.underlying9 (.slice A st1.bs.length c) st1.bs.length (bytesV st1.bs) rfl HO.out s rfl (by have := HLN1.out; have := HBIG.out; omega) HSZ.out ?_; intro v1 w2 h1 g1 r1; obtain ⟨A1, k1, rfl⟩ := own_slice h1; rw [HR.out] at g1 r1; have hb1 : w2.heap[bw]? = _ := (g1.block bw HLT.out (fun e => HNE.out e.symm)).trans HB.out; have c10 : w2.cell? ⟨bw, 0, none⟩ = some (.slice A st1.bs.length c) := (cell_at hb1 0).trans rfl; have f10 := free_at hb1 0; have H1 := Lib.hid h1; have G1 := Lib.hid g1; have R1 := Lib.hid r1; clear hb1 h1 g1 r1))
      refine bodyPost_end (results_none rfl _ _ _) rfl ⟨rfl, _, (Q1.out.trans (RWr.text (l := st1.bs ++ s2l s) (p := s2l s) (c := 262145) Q1.out.own (Chg.refl _ _) ?_ G1.out R1.out ?_ (fun q hq => ?_))).as rfl (Nat.le_refl 262153) rfl⟩
      · have := H1.out
        rw [bytesV_append, List.length_append, s2l_length]
        exact this
      · have := HBIG.out
        rw [List.length_append, s2l_length]; omega
      · rcases hq with ⟨rfl, _⟩ | ⟨h1, _⟩
        · by_cases hl : (st1.bs ++ s2l s).length ≤ 262144
          · exact .inl ⟨rfl, hl⟩
          · exact .inr ⟨by omega, by omega⟩
        · exact absurd h1 HF.out

set_option maxHeartbeats 400000 in
theorem rbool_any (W0 w : World) (bw : Nat) (st : RSt) (b : Bool) (h : RwS W0 w bw st) (hl : st.bs.length + 8 ≤ 100000000000000) :
    Calls Try.prog 66 #[.pointer (some ⟨bw, 0, none⟩), .bool b] w (RPost W0 bw w st (le8 (b2n b)) 8 false) := by
  cases b
  · go_enter Try.func66, Try.ntmps66
    go_wp2_with fail
    refine (rnum_any W0 _ bw st _ h (by unfold In64; omega) hl).mono ?_
    rintro e w1 ⟨rfl, st1, q1⟩
    go_wp2_with fail
    exact bodyPost_end (results_none rfl _ _ _) rfl ⟨rfl, _, q1⟩
  · go_enter Try.func66, Try.ntmps66
    go_wp2_with fail
    refine (rnum_any W0 _ bw st _ h (by unfold In64; omega) hl).mono ?_
    rintro e w1 ⟨rfl, st1, q1⟩
    go_wp2_with fail
    exact bodyPost_end (results_none rfl _ _ _) rfl ⟨rfl, _, q1⟩

theorem rw_dp {W0 w : World} {bw : Nat} {st : RSt} (h : RwS W0 w bw st) (z : Int) : RwS W0 (w.setCell ⟨bw, 2, none⟩ (.int .i64 z)) bw { st with dp := z } ∧ Chg (fun k => k = bw) w (w.setCell ⟨bw, 2, none⟩ (.int .i64 z)) := by
  obtain ⟨v, hb, ho, hr⟩ := h.at_
  have hc : Chg (fun k => k = bw) w (w.setCell ⟨bw, 2, none⟩ (.int .i64 z)) := (Chg.refl (fun k => k = bw) w).setCell (p := ⟨bw, 2, none⟩) (fun _ => rfl) _
  refine ⟨⟨Below.chg h.old hc h.old.size (fun i e => e ▸ h.bw_ge), h.bw_ge, ⟨v, by simpa using set_at hb 2 (.int .i64 z), ?_, hr⟩, h.ne⟩, hc⟩
  exact ownsRow_setCell_other ho (by rw [hr]; exact h.ne) _
theorem rw_deep {W0 w : World} {bw : Nat} {st : RSt} (h : RwS W0 w bw st) : RwS W0 (w.setCell ⟨bw, 1, none⟩ (.bool true)) bw { st with deep := true } ∧ Chg (fun k => k = bw) w (w.setCell ⟨bw, 1, none⟩ (.bool true)) := by
  obtain ⟨v, hb, ho, hr⟩ := h.at_
  have hc : Chg (fun k => k = bw) w (w.setCell ⟨bw, 1, none⟩ (.bool true)) := (Chg.refl (fun k => k = bw) w).setCell (p := ⟨bw, 1, none⟩) (fun _ => rfl) _
  refine ⟨⟨Below.chg h.old hc h.old.size (fun i e => e ▸ h.bw_ge), h.bw_ge, ⟨v, by simpa using set_at hb 1 (.bool true), ?_, hr⟩, h.ne⟩, hc⟩
  exact ownsRow_setCell_other ho (by rw [hr]; exact h.ne) _

/-- One deeper: the state. -/
def RSt.inn (st : RSt) : RSt := { st with dp := st.dp + 1, deep := st.deep || decide (101 < st.dp + 1) }
def InPost (W0 : World) (bw : Nat) (w : World) (st : RSt) (e : Ending) (w' : World) : Prop := e = .returned (.bool (decide (st.dp + 1 ≤ 101))) ∧ RwS W0 w' bw st.inn ∧ Chg (fun k => k = bw) w w'

set_option maxHeartbeats 400000 in
theorem rin_any (W0 w : World) (bw : Nat) (st : RSt) (h : RwS W0 w bw st) (h0 : 0 ≤ st.dp) (h1 : st.dp ≤ 1000) :
    Calls Try.prog 93 #[.pointer (some ⟨bw, 0, none⟩)] w (InPost W0 bw w st) := by
  obtain ⟨v, hb, ho, hr⟩ := h.at_
  have c2 : w.cell? ⟨bw, 2, none⟩ = some (.int .i64 st.dp) := by rw [cell_at hb]; simp
  have c1 : w.cell? ⟨bw, 1, none⟩ = some (.bool st.deep) := by rw [cell_at hb]; simp
  have f2 := free_at hb 2
  obtain ⟨a1, a2⟩ := rw_dp h (st.dp + 1)
  obtain ⟨v', hb', _, _⟩ := a1.at_
  have f1 := free_at hb' 1
  have c21 : (w.setCell ⟨bw, 2, none⟩ (.int .i64 (st.dp + 1))).cell? ⟨bw, 2, none⟩ = some (.int .i64 (st.dp + 1)) := (cell_at hb' 2).trans rfl
  have c22 : ((w.setCell ⟨bw, 2, none⟩ (.int .i64 (st.dp + 1))).setCell ⟨bw, 1, none⟩ (.bool true)).cell? ⟨bw, 2, none⟩ = some (.int .i64 (st.dp + 1)) := (cell_at (set_at hb' 1 (.bool true)) 2).trans rfl
  have H1 := Lib.hid a1; have H2 := Lib.hid a2
  obtain ⟨b1, b2⟩ := rw_deep a1
  have HB := Lib.hid b1; have HB2 := Lib.hid (a2.trans b2 (fun _ _ e => e))
  clear hb ho hr h hb' a1 a2 b1 b2
  by_cases hd : 101 < st.dp + 1
  · have D := Lib.hid (decide_eq_true hd)
    have D2 := Lib.hid (decide_eq_false (show ¬ st.dp + 1 ≤ 101 by omega))
    go_enter Try.func93, Try.ntmps93
    go_wp2_with fail
    refine bodyPost_ret (results_tmp rfl _ _ _) rfl ⟨by first | rfl | (rw [D2.out]; rfl), ?_, HB2.out⟩
    rw [RSt.inn, D.out, Bool.or_true]
    exact HB.out
  · have D := Lib.hid (decide_eq_false hd)
    have D2 := Lib.hid (decide_eq_true (show st.dp + 1 ≤ 101 by omega))
    go_enter Try.func93, Try.ntmps93
    go_wp2_with fail
    refine bodyPost_ret (results_tmp rfl _ _ _) rfl ⟨by first | rfl | (rw [D2.out]; rfl), ?_, H2.out⟩
    rw [RSt.inn, D.out, Bool.or_false]
    exact H1.out
end Go.Proofs.Ytghnaaahkbnhlaa
