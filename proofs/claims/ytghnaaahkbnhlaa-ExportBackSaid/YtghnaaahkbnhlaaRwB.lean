/-
  The walks of the document's Writer (mortiseref8) over records and lists. The conditions: as in XRwA; what is written reads in memory that the writer does not touch.
-/
import Derived.Test.YtghnaaahkbnhlaaRwA
import Derived.Test.YtghnaaahkbnhlaaEncC
import Derived.Test.YtghnaaahkbnhlaaShal
namespace Go.Proofs.Ytghnaaahkbnhlaa
open Go.RowKit
set_option linter.unusedVariables false
set_option linter.unusedSimpArgs false

mutual
def Ty.cost : Ty → Nat
  | .mk _ _ _ x3 x4 => 8 + (262153 + (262153 + ((8 + Ty.costL x3) + ((8 + Ty.costL x4)))))
def Ty.costL : List Ty → Nat
  | [] => 0
  | t :: r => Ty.cost t + Ty.costL r
end
theorem Ty.cost_eq (t : Ty) : t.cost = 8 + (262153 + (262153 + ((8 + Ty.costL t.args) + ((8 + Ty.costL t.res))))) := by cases t; rfl
theorem Ty.costL_take : ∀ (l : List Ty) (k : Nat) (h : k < l.length), Ty.costL (l.take (k + 1)) = Ty.costL (l.take k) + Ty.cost l[k]
  | t :: r, 0, _ => by simp [Ty.costL]
  | t :: r, k + 1, h => by
    simp only [List.take_succ_cons, Ty.costL, List.getElem_cons_succ]
    rw [Ty.costL_take r k (by simpa using h)]
    omega
  | [], k, h => absurd h (by simp)
theorem Ty.costL_le : ∀ (l : List Ty) (k : Nat), Ty.costL (l.take k) ≤ Ty.costL l
  | [], k => by simp [Ty.costL]
  | t :: r, 0 => by simp [Ty.costL]
  | t :: r, k + 1 => by
    simp only [List.take_succ_cons, Ty.costL]
    have := Ty.costL_le r k
    omega
def Fld.cost (t : Fld) : Nat := 262153 + (Ty.cost t.type)
def Fld.costL : List Fld → Nat
  | [] => 0
  | t :: r => Fld.cost t + Fld.costL r
theorem Fld.cost_eq (t : Fld) : t.cost = 262153 + (Ty.cost t.type) := rfl
theorem Fld.costL_take : ∀ (l : List Fld) (k : Nat) (h : k < l.length), Fld.costL (l.take (k + 1)) = Fld.costL (l.take k) + Fld.cost l[k]
  | t :: r, 0, _ => by simp [Fld.costL]
  | t :: r, k + 1, h => by
    simp only [List.take_succ_cons, Fld.costL, List.getElem_cons_succ]
    rw [Fld.costL_take r k (by simpa using h)]
    omega
  | [], k, h => absurd h (by simp)
theorem Fld.costL_le : ∀ (l : List Fld) (k : Nat), Fld.costL (l.take k) ≤ Fld.costL l
  | [], k => by simp [Fld.costL]
  | t :: r, 0 => by simp [Fld.costL]
  | t :: r, k + 1 => by
    simp only [List.take_succ_cons, Fld.costL]
    have := Fld.costL_le r k
    omega
def Imp.cost (t : Imp) : Nat := 262153 + (8)
def Imp.costL : List Imp → Nat
  | [] => 0
  | t :: r => Imp.cost t + Imp.costL r
theorem Imp.cost_eq (t : Imp) : t.cost = 262153 + (8) := rfl
theorem Imp.costL_take : ∀ (l : List Imp) (k : Nat) (h : k < l.length), Imp.costL (l.take (k + 1)) = Imp.costL (l.take k) + Imp.cost l[k]
  | t :: r, 0, _ => by simp [Imp.costL]
  | t :: r, k + 1, h => by
    simp only [List.take_succ_cons, Imp.costL, List.getElem_cons_succ]
    rw [Imp.costL_take r k (by simpa using h)]
    omega
  | [], k, h => absurd h (by simp)
theorem Imp.costL_le : ∀ (l : List Imp) (k : Nat), Imp.costL (l.take k) ≤ Imp.costL l
  | [], k => by simp [Imp.costL]
  | t :: r, 0 => by simp [Imp.costL]
  | t :: r, k + 1 => by
    simp only [List.take_succ_cons, Imp.costL]
    have := Imp.costL_le r k
    omega
def Dcl.cost (t : Dcl) : Nat := 8 + (262153 + (262153 + (8 + (Ty.cost t.type + ((8 + Fld.costL t.fields))))))
def Dcl.costL : List Dcl → Nat
  | [] => 0
  | t :: r => Dcl.cost t + Dcl.costL r
theorem Dcl.cost_eq (t : Dcl) : t.cost = 8 + (262153 + (262153 + (8 + (Ty.cost t.type + ((8 + Fld.costL t.fields)))))) := rfl
theorem Dcl.costL_take : ∀ (l : List Dcl) (k : Nat) (h : k < l.length), Dcl.costL (l.take (k + 1)) = Dcl.costL (l.take k) + Dcl.cost l[k]
  | t :: r, 0, _ => by simp [Dcl.costL]
  | t :: r, k + 1, h => by
    simp only [List.take_succ_cons, Dcl.costL, List.getElem_cons_succ]
    rw [Dcl.costL_take r k (by simpa using h)]
    omega
  | [], k, h => absurd h (by simp)
theorem Dcl.costL_le : ∀ (l : List Dcl) (k : Nat), Dcl.costL (l.take k) ≤ Dcl.costL l
  | [], k => by simp [Dcl.costL]
  | t :: r, 0 => by simp [Dcl.costL]
  | t :: r, k + 1 => by
    simp only [List.take_succ_cons, Dcl.costL]
    have := Dcl.costL_le r k
    omega
mutual
def Ex.cost : Ex → Nat
  | .mk _ _ _ x3 => 8 + (8 + (262153 + ((8 + Ex.costL x3))))
def Ex.costL : List Ex → Nat
  | [] => 0
  | t :: r => Ex.cost t + Ex.costL r
end
theorem Ex.cost_eq (t : Ex) : t.cost = 8 + (8 + (262153 + ((8 + Ex.costL t.kids)))) := by cases t; rfl
theorem Ex.costL_take : ∀ (l : List Ex) (k : Nat) (h : k < l.length), Ex.costL (l.take (k + 1)) = Ex.costL (l.take k) + Ex.cost l[k]
  | t :: r, 0, _ => by simp [Ex.costL]
  | t :: r, k + 1, h => by
    simp only [List.take_succ_cons, Ex.costL, List.getElem_cons_succ]
    rw [Ex.costL_take r k (by simpa using h)]
    omega
  | [], k, h => absurd h (by simp)
theorem Ex.costL_le : ∀ (l : List Ex) (k : Nat), Ex.costL (l.take k) ≤ Ex.costL l
  | [], k => by simp [Ex.costL]
  | t :: r, 0 => by simp [Ex.costL]
  | t :: r, k + 1 => by
    simp only [List.take_succ_cons, Ex.costL]
    have := Ex.costL_le r k
    omega
mutual
def St.cost : St → Nat
  | .mk _ _ x2 x3 x4 => 8 + (8 + ((8 + Ex.costL x2) + ((8 + St.costL x3) + ((8 + St.costL x4)))))
def St.costL : List St → Nat
  | [] => 0
  | t :: r => St.cost t + St.costL r
end
theorem St.cost_eq (t : St) : t.cost = 8 + (8 + ((8 + Ex.costL t.exprs) + ((8 + St.costL t.body) + ((8 + St.costL t.els))))) := by cases t; rfl
theorem St.costL_take : ∀ (l : List St) (k : Nat) (h : k < l.length), St.costL (l.take (k + 1)) = St.costL (l.take k) + St.cost l[k]
  | t :: r, 0, _ => by simp [St.costL]
  | t :: r, k + 1, h => by
    simp only [List.take_succ_cons, St.costL, List.getElem_cons_succ]
    rw [St.costL_take r k (by simpa using h)]
    omega
  | [], k, h => absurd h (by simp)
theorem St.costL_le : ∀ (l : List St) (k : Nat), St.costL (l.take k) ≤ St.costL l
  | [], k => by simp [St.costL]
  | t :: r, 0 => by simp [St.costL]
  | t :: r, k + 1 => by
    simp only [List.take_succ_cons, St.costL]
    have := St.costL_le r k
    omega
def Fn.cost (t : Fn) : Nat := 262153 + (8 + (8 + (8 + ((8 + St.costL t.body)))))
def Fn.costL : List Fn → Nat
  | [] => 0
  | t :: r => Fn.cost t + Fn.costL r
theorem Fn.cost_eq (t : Fn) : t.cost = 262153 + (8 + (8 + (8 + ((8 + St.costL t.body))))) := rfl
theorem Fn.costL_take : ∀ (l : List Fn) (k : Nat) (h : k < l.length), Fn.costL (l.take (k + 1)) = Fn.costL (l.take k) + Fn.cost l[k]
  | t :: r, 0, _ => by simp [Fn.costL]
  | t :: r, k + 1, h => by
    simp only [List.take_succ_cons, Fn.costL, List.getElem_cons_succ]
    rw [Fn.costL_take r k (by simpa using h)]
    omega
  | [], k, h => absurd h (by simp)
theorem Fn.costL_le : ∀ (l : List Fn) (k : Nat), Fn.costL (l.take k) ≤ Fn.costL l
  | [], k => by simp [Fn.costL]
  | t :: r, 0 => by simp [Fn.costL]
  | t :: r, k + 1 => by
    simp only [List.take_succ_cons, Fn.costL]
    have := Fn.costL_le r k
    omega
theorem fitTyL_take : ∀ (l : List Ty) (a : Int) (k : Nat) (h : k < l.length), fitTyL (l.take (k + 1)) a = (fitTyL (l.take k) a && fitTy l[k] a)
  | t :: r, a, 0, _ => by simp [fitTyL]
  | t :: r, a, k + 1, h => by
    simp only [List.take_succ_cons, fitTyL, List.getElem_cons_succ]
    rw [fitTyL_take r a k (by simpa using h), Bool.and_assoc]
  | [], _, k, h => absurd h (by simp)
theorem fitExL_take : ∀ (l : List Ex) (a : Int) (k : Nat) (h : k < l.length), fitExL (l.take (k + 1)) a = (fitExL (l.take k) a && fitEx l[k] a)
  | t :: r, a, 0, _ => by simp [fitExL]
  | t :: r, a, k + 1, h => by
    simp only [List.take_succ_cons, fitExL, List.getElem_cons_succ]
    rw [fitExL_take r a k (by simpa using h), Bool.and_assoc]
  | [], _, k, h => absurd h (by simp)
theorem fitStL_take : ∀ (l : List St) (a : Int) (k : Nat) (h : k < l.length), fitStL (l.take (k + 1)) a = (fitStL (l.take k) a && fitSt l[k] a)
  | t :: r, a, 0, _ => by simp [fitStL]
  | t :: r, a, k + 1, h => by
    simp only [List.take_succ_cons, fitStL, List.getElem_cons_succ]
    rw [fitStL_take r a k (by simpa using h), Bool.and_assoc]
  | [], _, k, h => absurd h (by simp)

theorem RBoxed.inn {w w1 : World} {bw kb : Nat} {st : RSt} {o : Obj} (h : RBoxed w bw st kb o) (k : Chg (fun k => k = bw) w w1) : RBoxed w1 bw st.inn kb o :=
  ⟨k.heap h.at_ (fun e => h.ne e), h.ne, h.nr⟩
theorem RWr.inside {W0 w w1 wN : World} {bw : Nat} {st stN : RSt} {p : List UInt8} {c : Nat} {d : Bool} (hin : RwS W0 w1 bw st.inn) (hc : Chg (fun k => k = bw) w w1) (hd : st.dp + 1 ≤ 101)
    (q : RWr W0 bw w1 st.inn p c d wN stN) (z : Int) (hz : z = st.dp) : RWr W0 bw w st p c d (wN.setCell ⟨bw, 2, none⟩ (.int .i64 z)) { stN with dp := z } := by
  obtain ⟨a1, a2⟩ := rw_dp q.own z
  have e : st.inn.deep = st.deep := by unfold RSt.inn; simp; omega
  refine ⟨a1, hz, ?_, q.len, q.put, (hc.mono (fun _ _ e => .inl e)).trans (q.chg.trans a2 (fun i _ e => .inl e)) (fun i _ e => e), q.row.imp id (fun ⟨k, e, hk⟩ => ⟨k, e, Nat.le_trans hc.size hk⟩)⟩
  show stN.deep = _
  rw [q.deep_eq, e]
theorem RWr.toodeep {W0 w w1 : World} {bw : Nat} {st : RSt} (hin : RwS W0 w1 bw st.inn) (hc : Chg (fun k => k = bw) w w1) (hd : 101 < st.dp + 1) (p : List UInt8) (c : Nat) (z : Int) (hz : z = st.dp) :
    RWr W0 bw w st p c true (w1.setCell ⟨bw, 2, none⟩ (.int .i64 z)) { st.inn with dp := z } := by
  obtain ⟨a1, a2⟩ := rw_dp hin z
  have e : st.inn.deep = true := by unfold RSt.inn; simp; omega
  refine ⟨a1, hz, ?_, Nat.le_add_right _ _, fun h => ?_, (hc.trans a2 (fun _ _ e => e)).mono (fun _ _ e => .inl e), .inl rfl⟩
  · show st.inn.deep = _
    rw [e, Bool.or_true]
  · have h' : st.inn.deep = false := h
    rw [e] at h'; cases h'
theorem RWr.bound {W0 w w' : World} {bw : Nat} {st st' : RSt} {p : List UInt8} {c : Nat} {d : Bool} (h : RWr W0 bw w st p c d w' st') {n : Nat} (hb : st.bs.length + (c + n) ≤ 100000000000000) : st'.bs.length + n ≤ 100000000000000 := by have := h.len; omega

def WTy (W0 : World) (bw : Nat) (t : Ty) : Prop := ∀ (w : World) (st : RSt) (vs : List Value), RwS W0 w bw st → Vals W0 t.d vs → 0 ≤ st.dp → st.dp ≤ 101 → st.bs.length + t.cost ≤ 100000000000000 → Calls Try.prog 65 #[.pointer (some ⟨bw, 0, none⟩), .agg vs.toArray] w (RPost W0 bw w st (encTy t) t.cost (!fitTy t st.dp))
def WTyL (W0 : World) (bw : Nat) (l : List Ty) : Prop := ∀ (w : World) (st : RSt) (A : Option Addr) (c : Nat), RwS W0 w bw st → SL W0 5 (Ty.ds l) l.length A c → 0 ≤ st.dp → st.dp ≤ 101 → st.bs.length + (8 + Ty.costL l) ≤ 100000000000000 → Calls Try.prog 94 #[.pointer (some ⟨bw, 0, none⟩), .slice A l.length c] w (RPost W0 bw w st (le8 l.length ++ encTyL l) (8 + Ty.costL l) (!fitTyL l st.dp))
def RLoopTy (W0 : World) (bw : Nat) (w : World) (st : RSt) (l : List Ty) (k : Nat) (wr : World) : Prop := ∃ st', RWr W0 bw w st (le8 l.length ++ encTyL (l.take k)) (8 + Ty.costL (l.take k)) (!fitTyL (l.take k) st.dp) wr st'
theorem RLoopTy.next {W0 w wr w2 : World} {bw : Nat} {st st1 st2 : RSt} {l : List Ty} {k : Nat} (h : RWr W0 bw w st (le8 l.length ++ encTyL (l.take k)) (8 + Ty.costL (l.take k)) (!fitTyL (l.take k) st.dp) wr st1) (hk : k < l.length) (q : RWr W0 bw wr st1 (encTy l[k]) (Ty.cost l[k]) (!fitTy l[k] st1.dp) w2 st2) : RLoopTy W0 bw w st l (k + 1) w2 := by
  refine ⟨st2, (h.trans q).as ?_ ?_ ?_⟩
  · rw [encTyL_take l k hk, List.append_assoc]
  · rw [Ty.costL_take l k hk]; omega
  · rw [fitTyL_take l st.dp k hk, h.dp_eq, Bool.not_and]
def WEx (W0 : World) (bw : Nat) (t : Ex) : Prop := ∀ (w : World) (st : RSt) (vs : List Value), RwS W0 w bw st → Vals W0 t.d vs → 0 ≤ st.dp → st.dp ≤ 101 → st.bs.length + t.cost ≤ 100000000000000 → Calls Try.prog 108 #[.pointer (some ⟨bw, 0, none⟩), .agg vs.toArray] w (RPost W0 bw w st (encEx t) t.cost (!fitEx t st.dp))
def WExL (W0 : World) (bw : Nat) (l : List Ex) : Prop := ∀ (w : World) (st : RSt) (A : Option Addr) (c : Nat), RwS W0 w bw st → SL W0 4 (Ex.ds l) l.length A c → 0 ≤ st.dp → st.dp ≤ 101 → st.bs.length + (8 + Ex.costL l) ≤ 100000000000000 → Calls Try.prog 95 #[.pointer (some ⟨bw, 0, none⟩), .slice A l.length c] w (RPost W0 bw w st (le8 l.length ++ encExL l) (8 + Ex.costL l) (!fitExL l st.dp))
def RLoopEx (W0 : World) (bw : Nat) (w : World) (st : RSt) (l : List Ex) (k : Nat) (wr : World) : Prop := ∃ st', RWr W0 bw w st (le8 l.length ++ encExL (l.take k)) (8 + Ex.costL (l.take k)) (!fitExL (l.take k) st.dp) wr st'
theorem RLoopEx.next {W0 w wr w2 : World} {bw : Nat} {st st1 st2 : RSt} {l : List Ex} {k : Nat} (h : RWr W0 bw w st (le8 l.length ++ encExL (l.take k)) (8 + Ex.costL (l.take k)) (!fitExL (l.take k) st.dp) wr st1) (hk : k < l.length) (q : RWr W0 bw wr st1 (encEx l[k]) (Ex.cost l[k]) (!fitEx l[k] st1.dp) w2 st2) : RLoopEx W0 bw w st l (k + 1) w2 := by
  refine ⟨st2, (h.trans q).as ?_ ?_ ?_⟩
  · rw [encExL_take l k hk, List.append_assoc]
  · rw [Ex.costL_take l k hk]; omega
  · rw [fitExL_take l st.dp k hk, h.dp_eq, Bool.not_and]
def WStL (W0 : World) (bw : Nat) (l : List St) : Prop := ∀ (w : World) (st : RSt) (A : Option Addr) (c : Nat), RwS W0 w bw st → SL W0 5 (St.ds l) l.length A c → 0 ≤ st.dp → st.dp ≤ 101 → st.bs.length + (8 + St.costL l) ≤ 100000000000000 → Calls Try.prog 67 #[.pointer (some ⟨bw, 0, none⟩), .slice A l.length c] w (RPost W0 bw w st (le8 l.length ++ encStL l) (8 + St.costL l) (!fitStL l st.dp))
def RLoopSt (W0 : World) (bw : Nat) (w : World) (st : RSt) (l : List St) (k : Nat) (wr : World) : Prop := ∃ st', RWr W0 bw w st (le8 l.length ++ encStL (l.take k)) (8 + St.costL (l.take k)) (!fitStL (l.take k) st.dp) wr st'
theorem RLoopSt.next {W0 w wr w2 : World} {bw : Nat} {st st1 st2 : RSt} {l : List St} {k : Nat} (h : RWr W0 bw w st (le8 l.length ++ encStL (l.take k)) (8 + St.costL (l.take k)) (!fitStL (l.take k) st.dp) wr st1) (hk : k < l.length) (q : RWr W0 bw wr st1 (encSt l[k]) (St.cost l[k]) (!fitSt l[k] st1.dp) w2 st2) : RLoopSt W0 bw w st l (k + 1) w2 := by
  refine ⟨st2, (h.trans q).as ?_ ?_ ?_⟩
  · rw [encStL_take l k hk, List.append_assoc]
  · rw [St.costL_take l k hk]; omega
  · rw [fitStL_take l st.dp k hk, h.dp_eq, Bool.not_and]
set_option maxRecDepth 100000 in
set_option maxHeartbeats 400000 in
theorem rTyL_any (W0 : World) (bw : Nat) (l : List Ty) (o_e : ∀ t ∈ l, WTy W0 bw t) : WTyL W0 bw l := by
  have O_e := Lib.hid o_e; clear o_e
  intro w st A c h hl hd0 hd1 hb
  have hr := hl.2.2.1
  unfold Reach at hr
  have HI := Lib.hid (show In64 (l.length : Int) from by unfold In64; omega)
  have HL := Lib.hid hl; have HBB := Lib.hid hb; clear hl hb
  go_enter Try.func94, Try.ntmps94
  go_wp2_with fail
  refine (rnum_any W0 _ bw st _ h HI.out (by have := HBB.out; omega)).mono ?_
  rintro e w1 ⟨rfl, st1, q1⟩
  have hs : RLoopTy W0 bw w st l 0 w1 := ⟨st1, q1.as (by simp [encTyL]) (by simp [Ty.costL]) (by simp [fitTyL])⟩
  clear q1
  go_wp2_with fail
  go_loopw [4] (fun i wr => ∃ k : Nat, k ≤ l.length ∧ i = .int .i64 k ∧ RLoopTy W0 bw w st l k wr) (fun i _ => l.length - (intOf i).toNat)
  case atStart => exact ⟨0, Nat.zero_le _, rfl, hs⟩
  case round =>
    obtain ⟨k, hk, rfl, st2, hw2⟩ := hrel
    clear hs
    by_cases hlt : k < l.length
    · obtain ⟨b, o, hA, A3, c3, A4, c4, e0, e1, e2, e3, e4, q0, q1, q2, q3, q4⟩ := Ty.at HL.out.2.2.2 k hlt
      subst hA
      have hbk : st2.bs.length + Ty.cost l[k] ≤ 100000000000000 := hw2.bound (by have := HBB.out; have h1 := Ty.costL_take l k hlt; have h2 := Ty.costL_le l (k + 1); omega)
      have hd : st2.dp = st.dp := hw2.dp_eq
      have hsub := Below.sub hw2.own.old
      have f0 := hsub _ _ e0; have E0 := Lib.hid e0
      have f1 := hsub _ _ e1; have E1 := Lib.hid e1
      have f2 := hsub _ _ e2; have E2 := Lib.hid e2
      have f3 := hsub _ _ e3; have E3 := Lib.hid e3
      have f4 := hsub _ _ e4; have E4 := Lib.hid e4
      have HV := Lib.hid (Ty.shut (w := W0) (t := l[k]) q0 q1 q2 q3 q4)
      have HW := Lib.hid hw2; have HD := Lib.hid hd; have HBK := Lib.hid hbk
      clear hw2 hsub hd hbk e0 e1 e2 e3 e4 q0 q1 q2 q3 q4
      go_wp2_with fail
      refine (O_e.out l[k] (List.getElem_mem hlt) _ st2 _ HW.out.own HV.out (by rw [HD.out]; omega) (by rw [HD.out]; omega) HBK.out).mono ?_
      rintro e w2 ⟨rfl, st3, q3⟩
      have hn := RLoopTy.next HW.out hlt q3
      clear q3 HW HV
      go_wp2_with fail
      go_roundw
      case rel => exact ⟨k + 1, by omega, by go_num, hn⟩
      case measure => simp [intOf]; omega
    · rw [List.take_of_length_le (show l.length ≤ k by omega)] at hw2
      have HQ := Lib.hid hw2
      clear hw2
      go_wp2_with fail
      exact bodyPost_end (results_none rfl _ _ _) rfl ⟨rfl, _, HQ.out⟩
set_option maxRecDepth 100000 in
set_option maxHeartbeats 800000 in
theorem rTy_any (W0 : World) (bw : Nat) (t : Ty) (o_args : WTyL W0 bw t.args) (o_res : WTyL W0 bw t.res) : WTy W0 bw t := by
  intro w0 st0 vs h hv hd0 hd1 hb
  obtain ⟨A3, c3, A4, c4, rfl, q0, q1, q2, q3, q4⟩ := Ty.opn hv
  have hb0 := RBoxed.start h (.cells #[.int .i64 t.kind, .string t.pkg, .string t.name, .slice A3 t.args.length c3, .slice A4 t.res.length c4] 44)
  have h0 := h.grow ((Chg.refl _ w0).alloc (.cells #[.int .i64 t.kind, .string t.pkg, .string t.name, .slice A3 t.args.length c3, .slice A4 t.res.length c4] 44))
  have HG := Lib.hid ((Chg.refl (fun _ => False) w0).alloc (.cells #[.int .i64 t.kind, .string t.pkg, .string t.name, .slice A3 t.args.length c3, .slice A4 t.res.length c4] 44))
  have HB0 := Lib.hid hb0
  have H0 := Lib.hid h0
  have HBB := Lib.hid hb
  have HC := Lib.hid (Ty.cost_eq t)
  have HF := Lib.hid (fitTy_eq t st0.dp)
  have O_args := Lib.hid o_args; clear o_args
  have O_res := Lib.hid o_res; clear o_res
  have Q0 := Lib.hid q0; clear q0
  have Q1 := Lib.hid q1; clear q1
  have Q2 := Lib.hid q2; clear q2
  have Q3 := Lib.hid q3; clear q3
  have Q4 := Lib.hid q4; clear q4
  clear hb0 h0 h hv hb
  go_enter Try.func65, Try.ntmps65
  go_wp2_with fail
  refine (rin_any W0 _ bw st0 H0.out hd0 (by omega)).mono ?_
  rintro e w1 ⟨rfl, hi1, hi2⟩
  have HI1 := Lib.hid hi1; have HI2 := Lib.hid hi2; have HB1 := Lib.hid (HB0.out.inn hi2); clear hi1 hi2
  by_cases hd : st0.dp + 1 ≤ 101
  case neg =>
    rw [decide_eq_false hd]
    obtain ⟨vz, hbz, _, _⟩ := HI1.out.at_
    have c2z := (cell_at hbz 2).trans (show _ = some (.int .i64 (st0.dp + 1)) from by simp [RSt.inn])
    have f2z := free_at hbz 2
    clear hbz
    go_wp2_with fail
    refine bodyPost_end (results_none rfl _ _ _) rfl ⟨rfl, _, ((RWr.toodeep HI1.out HI2.out (by omega) (encTy t) t.cost _ (by omega)).after HG.out).as rfl (Nat.le_refl _) ?_⟩
    rw [HF.out, decide_eq_false (show ¬ st0.dp ≤ 100 by omega)]; rfl
  rw [decide_eq_true hd]
  have d1_0 : w1.cell? ⟨w0.heap.size, 0, none⟩ = some (.int .i64 t.kind) := (cell_at HB1.out.at_ 0).trans rfl
  have d1_1 : w1.cell? ⟨w0.heap.size, 1, none⟩ = some (.string t.pkg) := (cell_at HB1.out.at_ 1).trans rfl
  have d1_2 : w1.cell? ⟨w0.heap.size, 2, none⟩ = some (.string t.name) := (cell_at HB1.out.at_ 2).trans rfl
  have d1_3 : w1.cell? ⟨w0.heap.size, 3, none⟩ = some (.slice A3 t.args.length c3) := (cell_at HB1.out.at_ 3).trans rfl
  have d1_4 : w1.cell? ⟨w0.heap.size, 4, none⟩ = some (.slice A4 t.res.length c4) := (cell_at HB1.out.at_ 4).trans rfl
  go_wp2_with fail
  refine (rnum_any W0 _ bw st0.inn _ HI1.out Q0.out (by have h1 := HBB.out; have h2 := HC.out; simp only [RSt.inn] at *; omega)).mono ?_
  rintro e w2 ⟨rfl, st2, r2⟩
  have hb2 := HB1.out.next r2
  clear d1_0 d1_1 d1_2 d1_3 d1_4
  have R2 := Lib.hid r2; have HB2 := Lib.hid hb2; clear r2 hb2
  have d2_0 : w2.cell? ⟨w0.heap.size, 0, none⟩ = some (.int .i64 t.kind) := (cell_at HB2.out.at_ 0).trans rfl
  have d2_1 : w2.cell? ⟨w0.heap.size, 1, none⟩ = some (.string t.pkg) := (cell_at HB2.out.at_ 1).trans rfl
  have d2_2 : w2.cell? ⟨w0.heap.size, 2, none⟩ = some (.string t.name) := (cell_at HB2.out.at_ 2).trans rfl
  have d2_3 : w2.cell? ⟨w0.heap.size, 3, none⟩ = some (.slice A3 t.args.length c3) := (cell_at HB2.out.at_ 3).trans rfl
  have d2_4 : w2.cell? ⟨w0.heap.size, 4, none⟩ = some (.slice A4 t.res.length c4) := (cell_at HB2.out.at_ 4).trans rfl
  go_wp2_with fail
  refine (rtext_any W0 _ bw st2 _ R2.out.own Q1.out (by have h1 := HBB.out; have h2 := HC.out; have l2 := R2.out.len; simp only [RSt.inn] at *; omega)).mono ?_
  rintro e w3 ⟨rfl, st3, r3⟩
  have hb3 := HB2.out.next r3
  clear d2_0 d2_1 d2_2 d2_3 d2_4
  have R3 := Lib.hid r3; have HB3 := Lib.hid hb3; clear r3 hb3
  have d3_0 : w3.cell? ⟨w0.heap.size, 0, none⟩ = some (.int .i64 t.kind) := (cell_at HB3.out.at_ 0).trans rfl
  have d3_1 : w3.cell? ⟨w0.heap.size, 1, none⟩ = some (.string t.pkg) := (cell_at HB3.out.at_ 1).trans rfl
  have d3_2 : w3.cell? ⟨w0.heap.size, 2, none⟩ = some (.string t.name) := (cell_at HB3.out.at_ 2).trans rfl
  have d3_3 : w3.cell? ⟨w0.heap.size, 3, none⟩ = some (.slice A3 t.args.length c3) := (cell_at HB3.out.at_ 3).trans rfl
  have d3_4 : w3.cell? ⟨w0.heap.size, 4, none⟩ = some (.slice A4 t.res.length c4) := (cell_at HB3.out.at_ 4).trans rfl
  go_wp2_with fail
  refine (rtext_any W0 _ bw st3 _ R3.out.own Q2.out (by have h1 := HBB.out; have h2 := HC.out; have l2 := R2.out.len; have l3 := R3.out.len; simp only [RSt.inn] at *; omega)).mono ?_
  rintro e w4 ⟨rfl, st4, r4⟩
  have hb4 := HB3.out.next r4
  clear d3_0 d3_1 d3_2 d3_3 d3_4
  have R4 := Lib.hid r4; have HB4 := Lib.hid hb4; clear r4 hb4
  have d4_0 : w4.cell? ⟨w0.heap.size, 0, none⟩ = some (.int .i64 t.kind) := (cell_at HB4.out.at_ 0).trans rfl
  have d4_1 : w4.cell? ⟨w0.heap.size, 1, none⟩ = some (.string t.pkg) := (cell_at HB4.out.at_ 1).trans rfl
  have d4_2 : w4.cell? ⟨w0.heap.size, 2, none⟩ = some (.string t.name) := (cell_at HB4.out.at_ 2).trans rfl
  have d4_3 : w4.cell? ⟨w0.heap.size, 3, none⟩ = some (.slice A3 t.args.length c3) := (cell_at HB4.out.at_ 3).trans rfl
  have d4_4 : w4.cell? ⟨w0.heap.size, 4, none⟩ = some (.slice A4 t.res.length c4) := (cell_at HB4.out.at_ 4).trans rfl
  go_wp2_with fail
  refine (O_args.out _ st4 _ _ R4.out.own Q3.out (by rw [(show st4.dp = st0.dp + 1 from by rw [R4.out.dp_eq, R3.out.dp_eq, R2.out.dp_eq]; rfl)]; omega) (by rw [(show st4.dp = st0.dp + 1 from by rw [R4.out.dp_eq, R3.out.dp_eq, R2.out.dp_eq]; rfl)]; omega) (by have h1 := HBB.out; have h2 := HC.out; have l2 := R2.out.len; have l3 := R3.out.len; have l4 := R4.out.len; simp only [RSt.inn] at *; omega)).mono ?_
  rintro e w5 ⟨rfl, st5, r5⟩
  have hb5 := HB4.out.next r5
  clear d4_0 d4_1 d4_2 d4_3 d4_4
  have R5 := Lib.hid r5; have HB5 := Lib.hid hb5; clear r5 hb5
  have d5_0 : w5.cell? ⟨w0.heap.size, 0, none⟩ = some (.int .i64 t.kind) := (cell_at HB5.out.at_ 0).trans rfl
  have d5_1 : w5.cell? ⟨w0.heap.size, 1, none⟩ = some (.string t.pkg) := (cell_at HB5.out.at_ 1).trans rfl
  have d5_2 : w5.cell? ⟨w0.heap.size, 2, none⟩ = some (.string t.name) := (cell_at HB5.out.at_ 2).trans rfl
  have d5_3 : w5.cell? ⟨w0.heap.size, 3, none⟩ = some (.slice A3 t.args.length c3) := (cell_at HB5.out.at_ 3).trans rfl
  have d5_4 : w5.cell? ⟨w0.heap.size, 4, none⟩ = some (.slice A4 t.res.length c4) := (cell_at HB5.out.at_ 4).trans rfl
  go_wp2_with fail
  refine (O_res.out _ st5 _ _ R5.out.own Q4.out (by rw [(show st5.dp = st0.dp + 1 from by rw [R5.out.dp_eq, R4.out.dp_eq, R3.out.dp_eq, R2.out.dp_eq]; rfl)]; omega) (by rw [(show st5.dp = st0.dp + 1 from by rw [R5.out.dp_eq, R4.out.dp_eq, R3.out.dp_eq, R2.out.dp_eq]; rfl)]; omega) (by have h1 := HBB.out; have h2 := HC.out; have l2 := R2.out.len; have l3 := R3.out.len; have l4 := R4.out.len; have l5 := R5.out.len; simp only [RSt.inn] at *; omega)).mono ?_
  rintro e w6 ⟨rfl, st6, r6⟩
  have hb6 := HB5.out.next r6
  clear d5_0 d5_1 d5_2 d5_3 d5_4
  have R6 := Lib.hid r6; have HB6 := Lib.hid hb6; clear r6 hb6
  obtain ⟨vz, hbz, _, _⟩ := R6.out.own.at_
  have c2z := (cell_at hbz 2).trans (show _ = some (.int .i64 (st0.dp + 1)) from by simp [R6.out.dp_eq, R5.out.dp_eq, R4.out.dp_eq, R3.out.dp_eq, R2.out.dp_eq, RSt.inn])
  have f2z := free_at hbz 2
  clear hbz
  go_wp2_with fail
  have hfin := (RWr.inside HI1.out HI2.out hd (R2.out.trans (R3.out.trans (R4.out.trans (R5.out.trans (R6.out))))) st0.dp rfl).after HG.out
  refine bodyPost_end (results_none rfl _ _ _) rfl ⟨rfl, _, hfin.as ?_ ?_ ?_⟩
  · rw [encTy_eq]
  · rw [HC.out]; exact Nat.le_refl _
  · rw [HF.out, decide_eq_true (show st0.dp ≤ 100 by omega)]
    simp [R6.out.dp_eq, R5.out.dp_eq, R4.out.dp_eq, R3.out.dp_eq, R2.out.dp_eq, RSt.inn, Bool.not_and]
set_option maxRecDepth 100000 in
set_option maxHeartbeats 400000 in
theorem rExL_any (W0 : World) (bw : Nat) (l : List Ex) (o_e : ∀ t ∈ l, WEx W0 bw t) : WExL W0 bw l := by
  have O_e := Lib.hid o_e; clear o_e
  intro w st A c h hl hd0 hd1 hb
  have hr := hl.2.2.1
  unfold Reach at hr
  have HI := Lib.hid (show In64 (l.length : Int) from by unfold In64; omega)
  have HL := Lib.hid hl; have HBB := Lib.hid hb; clear hl hb
  go_enter Try.func95, Try.ntmps95
  go_wp2_with fail
  refine (rnum_any W0 _ bw st _ h HI.out (by have := HBB.out; omega)).mono ?_
  rintro e w1 ⟨rfl, st1, q1⟩
  have hs : RLoopEx W0 bw w st l 0 w1 := ⟨st1, q1.as (by simp [encExL]) (by simp [Ex.costL]) (by simp [fitExL])⟩
  clear q1
  go_wp2_with fail
  go_loopw [4] (fun i wr => ∃ k : Nat, k ≤ l.length ∧ i = .int .i64 k ∧ RLoopEx W0 bw w st l k wr) (fun i _ => l.length - (intOf i).toNat)
  case atStart => exact ⟨0, Nat.zero_le _, rfl, hs⟩
  case round =>
    obtain ⟨k, hk, rfl, st2, hw2⟩ := hrel
    clear hs
    by_cases hlt : k < l.length
    · obtain ⟨b, o, hA, A3, c3, e0, e1, e2, e3, q0, q1, q2, q3⟩ := Ex.at HL.out.2.2.2 k hlt
      subst hA
      have hbk : st2.bs.length + Ex.cost l[k] ≤ 100000000000000 := hw2.bound (by have := HBB.out; have h1 := Ex.costL_take l k hlt; have h2 := Ex.costL_le l (k + 1); omega)
      have hd : st2.dp = st.dp := hw2.dp_eq
      have hsub := Below.sub hw2.own.old
      have f0 := hsub _ _ e0; have E0 := Lib.hid e0
      have f1 := hsub _ _ e1; have E1 := Lib.hid e1
      have f2 := hsub _ _ e2; have E2 := Lib.hid e2
      have f3 := hsub _ _ e3; have E3 := Lib.hid e3
      have HV := Lib.hid (Ex.shut (w := W0) (t := l[k]) q0 q1 q2 q3)
      have HW := Lib.hid hw2; have HD := Lib.hid hd; have HBK := Lib.hid hbk
      clear hw2 hsub hd hbk e0 e1 e2 e3 q0 q1 q2 q3
      go_wp2_with fail
      refine (O_e.out l[k] (List.getElem_mem hlt) _ st2 _ HW.out.own HV.out (by rw [HD.out]; omega) (by rw [HD.out]; omega) HBK.out).mono ?_
      rintro e w2 ⟨rfl, st3, q3⟩
      have hn := RLoopEx.next HW.out hlt q3
      clear q3 HW HV
      go_wp2_with fail
      go_roundw
      case rel => exact ⟨k + 1, by omega, by go_num, hn⟩
      case measure => simp [intOf]; omega
    · rw [List.take_of_length_le (show l.length ≤ k by omega)] at hw2
      have HQ := Lib.hid hw2
      clear hw2
      go_wp2_with fail
      exact bodyPost_end (results_none rfl _ _ _) rfl ⟨rfl, _, HQ.out⟩
set_option maxRecDepth 100000 in
set_option maxHeartbeats 800000 in
theorem rEx_any (W0 : World) (bw : Nat) (t : Ex) (o_kids : WExL W0 bw t.kids) : WEx W0 bw t := by
  intro w0 st0 vs h hv hd0 hd1 hb
  obtain ⟨A3, c3, rfl, q0, q1, q2, q3⟩ := Ex.opn hv
  have hb0 := RBoxed.start h (.cells #[.int .i64 t.op, .int .i64 t.n, .string t.name, .slice A3 t.kids.length c3] 132)
  have h0 := h.grow ((Chg.refl _ w0).alloc (.cells #[.int .i64 t.op, .int .i64 t.n, .string t.name, .slice A3 t.kids.length c3] 132))
  have HG := Lib.hid ((Chg.refl (fun _ => False) w0).alloc (.cells #[.int .i64 t.op, .int .i64 t.n, .string t.name, .slice A3 t.kids.length c3] 132))
  have HB0 := Lib.hid hb0
  have H0 := Lib.hid h0
  have HBB := Lib.hid hb
  have HC := Lib.hid (Ex.cost_eq t)
  have HF := Lib.hid (fitEx_eq t st0.dp)
  have O_kids := Lib.hid o_kids; clear o_kids
  have Q0 := Lib.hid q0; clear q0
  have Q1 := Lib.hid q1; clear q1
  have Q2 := Lib.hid q2; clear q2
  have Q3 := Lib.hid q3; clear q3
  clear hb0 h0 h hv hb
  go_enter Try.func108, Try.ntmps108
  go_wp2_with fail
  refine (rin_any W0 _ bw st0 H0.out hd0 (by omega)).mono ?_
  rintro e w1 ⟨rfl, hi1, hi2⟩
  have HI1 := Lib.hid hi1; have HI2 := Lib.hid hi2; have HB1 := Lib.hid (HB0.out.inn hi2); clear hi1 hi2
  by_cases hd : st0.dp + 1 ≤ 101
  case neg =>
    rw [decide_eq_false hd]
    obtain ⟨vz, hbz, _, _⟩ := HI1.out.at_
    have c2z := (cell_at hbz 2).trans (show _ = some (.int .i64 (st0.dp + 1)) from by simp [RSt.inn])
    have f2z := free_at hbz 2
    clear hbz
    go_wp2_with fail
    refine bodyPost_end (results_none rfl _ _ _) rfl ⟨rfl, _, ((RWr.toodeep HI1.out HI2.out (by omega) (encEx t) t.cost _ (by omega)).after HG.out).as rfl (Nat.le_refl _) ?_⟩
    rw [HF.out, decide_eq_false (show ¬ st0.dp ≤ 100 by omega)]; rfl
  rw [decide_eq_true hd]
  have d1_0 : w1.cell? ⟨w0.heap.size, 0, none⟩ = some (.int .i64 t.op) := (cell_at HB1.out.at_ 0).trans rfl
  have d1_1 : w1.cell? ⟨w0.heap.size, 1, none⟩ = some (.int .i64 t.n) := (cell_at HB1.out.at_ 1).trans rfl
  have d1_2 : w1.cell? ⟨w0.heap.size, 2, none⟩ = some (.string t.name) := (cell_at HB1.out.at_ 2).trans rfl
  have d1_3 : w1.cell? ⟨w0.heap.size, 3, none⟩ = some (.slice A3 t.kids.length c3) := (cell_at HB1.out.at_ 3).trans rfl
  go_wp2_with fail
  refine (rnum_any W0 _ bw st0.inn _ HI1.out Q0.out (by have h1 := HBB.out; have h2 := HC.out; simp only [RSt.inn] at *; omega)).mono ?_
  rintro e w2 ⟨rfl, st2, r2⟩
  have hb2 := HB1.out.next r2
  clear d1_0 d1_1 d1_2 d1_3
  have R2 := Lib.hid r2; have HB2 := Lib.hid hb2; clear r2 hb2
  have d2_0 : w2.cell? ⟨w0.heap.size, 0, none⟩ = some (.int .i64 t.op) := (cell_at HB2.out.at_ 0).trans rfl
  have d2_1 : w2.cell? ⟨w0.heap.size, 1, none⟩ = some (.int .i64 t.n) := (cell_at HB2.out.at_ 1).trans rfl
  have d2_2 : w2.cell? ⟨w0.heap.size, 2, none⟩ = some (.string t.name) := (cell_at HB2.out.at_ 2).trans rfl
  have d2_3 : w2.cell? ⟨w0.heap.size, 3, none⟩ = some (.slice A3 t.kids.length c3) := (cell_at HB2.out.at_ 3).trans rfl
  go_wp2_with fail
  refine (rnum_any W0 _ bw st2 _ R2.out.own Q1.out (by have h1 := HBB.out; have h2 := HC.out; have l2 := R2.out.len; simp only [RSt.inn] at *; omega)).mono ?_
  rintro e w3 ⟨rfl, st3, r3⟩
  have hb3 := HB2.out.next r3
  clear d2_0 d2_1 d2_2 d2_3
  have R3 := Lib.hid r3; have HB3 := Lib.hid hb3; clear r3 hb3
  have d3_0 : w3.cell? ⟨w0.heap.size, 0, none⟩ = some (.int .i64 t.op) := (cell_at HB3.out.at_ 0).trans rfl
  have d3_1 : w3.cell? ⟨w0.heap.size, 1, none⟩ = some (.int .i64 t.n) := (cell_at HB3.out.at_ 1).trans rfl
  have d3_2 : w3.cell? ⟨w0.heap.size, 2, none⟩ = some (.string t.name) := (cell_at HB3.out.at_ 2).trans rfl
  have d3_3 : w3.cell? ⟨w0.heap.size, 3, none⟩ = some (.slice A3 t.kids.length c3) := (cell_at HB3.out.at_ 3).trans rfl
  go_wp2_with fail
  refine (rtext_any W0 _ bw st3 _ R3.out.own Q2.out (by have h1 := HBB.out; have h2 := HC.out; have l2 := R2.out.len; have l3 := R3.out.len; simp only [RSt.inn] at *; omega)).mono ?_
  rintro e w4 ⟨rfl, st4, r4⟩
  have hb4 := HB3.out.next r4
  clear d3_0 d3_1 d3_2 d3_3
  have R4 := Lib.hid r4; have HB4 := Lib.hid hb4; clear r4 hb4
  have d4_0 : w4.cell? ⟨w0.heap.size, 0, none⟩ = some (.int .i64 t.op) := (cell_at HB4.out.at_ 0).trans rfl
  have d4_1 : w4.cell? ⟨w0.heap.size, 1, none⟩ = some (.int .i64 t.n) := (cell_at HB4.out.at_ 1).trans rfl
  have d4_2 : w4.cell? ⟨w0.heap.size, 2, none⟩ = some (.string t.name) := (cell_at HB4.out.at_ 2).trans rfl
  have d4_3 : w4.cell? ⟨w0.heap.size, 3, none⟩ = some (.slice A3 t.kids.length c3) := (cell_at HB4.out.at_ 3).trans rfl
  go_wp2_with fail
  refine (O_kids.out _ st4 _ _ R4.out.own Q3.out (by rw [(show st4.dp = st0.dp + 1 from by rw [R4.out.dp_eq, R3.out.dp_eq, R2.out.dp_eq]; rfl)]; omega) (by rw [(show st4.dp = st0.dp + 1 from by rw [R4.out.dp_eq, R3.out.dp_eq, R2.out.dp_eq]; rfl)]; omega) (by have h1 := HBB.out; have h2 := HC.out; have l2 := R2.out.len; have l3 := R3.out.len; have l4 := R4.out.len; simp only [RSt.inn] at *; omega)).mono ?_
  rintro e w5 ⟨rfl, st5, r5⟩
  have hb5 := HB4.out.next r5
  clear d4_0 d4_1 d4_2 d4_3
  have R5 := Lib.hid r5; have HB5 := Lib.hid hb5; clear r5 hb5
  obtain ⟨vz, hbz, _, _⟩ := R5.out.own.at_
  have c2z := (cell_at hbz 2).trans (show _ = some (.int .i64 (st0.dp + 1)) from by simp [R5.out.dp_eq, R4.out.dp_eq, R3.out.dp_eq, R2.out.dp_eq, RSt.inn])
  have f2z := free_at hbz 2
  clear hbz
  go_wp2_with fail
  have hfin := (RWr.inside HI1.out HI2.out hd (R2.out.trans (R3.out.trans (R4.out.trans (R5.out)))) st0.dp rfl).after HG.out
  refine bodyPost_end (results_none rfl _ _ _) rfl ⟨rfl, _, hfin.as ?_ ?_ ?_⟩
  · rw [encEx_eq]
  · rw [HC.out]; exact Nat.le_refl _
  · rw [HF.out, decide_eq_true (show st0.dp ≤ 100 by omega)]
    simp [R5.out.dp_eq, R4.out.dp_eq, R3.out.dp_eq, R2.out.dp_eq, RSt.inn, Bool.not_and]
theorem wTy_size (W0 : World) (bw : Nat) : ∀ (n : Nat) (t : Ty), SizeOf.sizeOf t < n → WTy W0 bw t
  | 0, _, h => absurd h (Nat.not_lt_zero _)
  | n + 1, .mk k p s xs ys, h => by
    simp only [Ty.mk.sizeOf_spec] at h
    exact rTy_any W0 bw _ (rTyL_any W0 bw xs (fun t ht => wTy_size W0 bw n t (by have := List.sizeOf_lt_of_mem ht; omega))) (rTyL_any W0 bw ys (fun t ht => wTy_size W0 bw n t (by have := List.sizeOf_lt_of_mem ht; omega)))
theorem wTyR (W0 : World) (bw : Nat) (t : Ty) : WTy W0 bw t := wTy_size W0 bw _ t (Nat.lt_succ_self _)
theorem wExL_size (W0 : World) (bw : Nat) : ∀ (n : Nat) (l : List Ex), SizeOf.sizeOf l < n → WExL W0 bw l
  | 0, _, h => absurd h (Nat.not_lt_zero _)
  | n + 1, l, h => rExL_any W0 bw l (fun t ht => rEx_any W0 bw t (wExL_size W0 bw n t.kids (by
      have := List.sizeOf_lt_of_mem ht
      cases t
      simp only [Ex.mk.sizeOf_spec, Ex.kids] at *
      omega)))
theorem wExLR (W0 : World) (bw : Nat) (l : List Ex) : WExL W0 bw l := wExL_size W0 bw _ l (Nat.lt_succ_self _)

set_option maxRecDepth 100000 in
set_option maxHeartbeats 1600000 in
theorem rStL_any (W0 : World) (bw : Nat) (l : List St) (o_body : ∀ t ∈ l, WStL W0 bw t.body) (o_els : ∀ t ∈ l, WStL W0 bw t.els) : WStL W0 bw l := by
  have O_body := Lib.hid o_body; have O_els := Lib.hid o_els; clear o_body o_els
  intro w st A c h hl hd0 hd1 hb
  have hr := hl.2.2.1
  unfold Reach at hr
  have HI := Lib.hid (show In64 (l.length : Int) from by unfold In64; omega)
  have HL := Lib.hid hl; have HBB := Lib.hid hb; clear hl hb
  go_enter Try.func67, Try.ntmps67
  go_wp2_with fail
  refine (rnum_any W0 _ bw st _ h HI.out (by have := HBB.out; omega)).mono ?_
  rintro e w1 ⟨rfl, st1, q1⟩
  have hs : RLoopSt W0 bw w st l 0 w1 := ⟨st1, q1.as (by simp [encStL]) (by simp [St.costL]) (by simp [fitStL])⟩
  clear q1
  go_wp2_with fail
  go_loopw [4] (fun i wr => ∃ k : Nat, k ≤ l.length ∧ i = .int .i64 k ∧ RLoopSt W0 bw w st l k wr) (fun i _ => l.length - (intOf i).toNat)
  case atStart => exact ⟨0, Nat.zero_le _, rfl, hs⟩
  case round =>
    obtain ⟨k, hk, rfl, st2, hw2⟩ := hrel
    clear hs
    by_cases hlt : k < l.length
    · obtain ⟨b, o, hA, A2, c2, A3, c3, A4, c4, e0, e1, e2, e3, e4, q0, q1, q2, q3, q4⟩ := St.at HL.out.2.2.2 k hlt
      subst hA
      have hbk : st2.bs.length + St.cost l[k] ≤ 100000000000000 := hw2.bound (by have := HBB.out; have h1 := St.costL_take l k hlt; have h2 := St.costL_le l (k + 1); omega)
      have hd : st2.dp = st.dp := hw2.dp_eq
      have hsub := Below.sub hw2.own.old
      have f0 := hsub _ _ e0; have E0 := Lib.hid e0
      have f1 := hsub _ _ e1; have E1 := Lib.hid e1
      have f2 := hsub _ _ e2; have E2 := Lib.hid e2
      have f3 := hsub _ _ e3; have E3 := Lib.hid e3
      have f4 := hsub _ _ e4; have E4 := Lib.hid e4
      have Q0 := Lib.hid q0; clear q0
      have Q1 := Lib.hid q1; clear q1
      have Q2 := Lib.hid q2; clear q2
      have Q3 := Lib.hid q3; clear q3
      have Q4 := Lib.hid q4; clear q4
      have HW := Lib.hid hw2; have HD := Lib.hid hd; have HBK := Lib.hid hbk; have HK := Lib.hid (List.getElem_mem hlt)
      have HC := Lib.hid (St.cost_eq l[k])
      have HF := Lib.hid (fitSt_eq l[k] st2.dp)
      clear hw2 hsub hd hbk e0 e1 e2 e3 e4
      have G0 := Lib.hid f0; clear f0
      have G1 := Lib.hid f1; clear f1
      have G2 := Lib.hid f2; clear f2
      have G3 := Lib.hid f3; clear f3
      have G4 := Lib.hid f4; clear f4
      obtain ⟨st0, hst0⟩ : ∃ st0, st0 = st2 := ⟨_, rfl⟩
      subst hst0
      go_wp2_with fail
      refine (rin_any W0 _ bw st0 HW.out.own (by rw [HD.out]; omega) (by rw [HD.out]; omega)).mono ?_
      rintro e v1 ⟨rfl, hi1, hi2⟩
      have HI1 := Lib.hid hi1; have HI2 := Lib.hid hi2; clear hi1 hi2
      have hd01 : st0.dp ≤ 101 := by rw [HD.out]; omega
      have hd00 : 0 ≤ st0.dp := by rw [HD.out]; omega
      by_cases hd : st0.dp + 1 ≤ 101
      case neg =>
        rw [decide_eq_false hd]
        obtain ⟨vz, hbz, _, _⟩ := HI1.out.at_
        have c2z := (cell_at hbz 2).trans (show _ = some (.int .i64 (st0.dp + 1)) from by simp [RSt.inn])
        have f2z := free_at hbz 2
        clear hbz
        go_wp2_with fail
        have hn := RLoopSt.next HW.out hlt ((RWr.toodeep HI1.out HI2.out (by omega) (encSt l[k]) (St.cost l[k]) st0.dp rfl).as rfl (Nat.le_refl _) (by rw [HF.out, decide_eq_false (show ¬ st0.dp ≤ 100 by omega)]; rfl))
        go_roundw
        case rel => exact ⟨k + 1, by omega, by go_num, hn⟩
        case measure => simp [intOf]; omega
      rw [decide_eq_true hd]
      have g0 := Below.sub HI1.out.old _ _ E0.out
      go_wp2_with fail
      refine (rnum_any W0 _ bw st0.inn _ HI1.out Q0.out (by have h1 := HBK.out; have h2 := HC.out; simp only [RSt.inn] at *; omega)).mono ?_
      rintro e v2 ⟨rfl, t2, r2⟩
      have R2 := Lib.hid r2; clear r2 g0
      have g1 := Below.sub R2.out.own.old _ _ E1.out
      go_wp2_with fail
      refine (rnum_any W0 _ bw t2 _ R2.out.own Q1.out (by have h1 := HBK.out; have h2 := HC.out; have l2 := R2.out.len; simp only [RSt.inn] at *; omega)).mono ?_
      rintro e v3 ⟨rfl, t3, r3⟩
      have R3 := Lib.hid r3; clear r3 g1
      have g2 := Below.sub R3.out.own.old _ _ E2.out
      go_wp2_with fail
      refine (wExLR W0 bw l[k].exprs _ t3 _ _ R3.out.own Q2.out (by rw [(show t3.dp = st0.dp + 1 from by rw [R3.out.dp_eq, R2.out.dp_eq]; rfl)]; omega) (by rw [(show t3.dp = st0.dp + 1 from by rw [R3.out.dp_eq, R2.out.dp_eq]; rfl)]; omega) (by have h1 := HBK.out; have h2 := HC.out; have l2 := R2.out.len; have l3 := R3.out.len; simp only [RSt.inn] at *; omega)).mono ?_
      rintro e v4 ⟨rfl, t4, r4⟩
      have R4 := Lib.hid r4; clear r4 g2
      have g3 := Below.sub R4.out.own.old _ _ E3.out
      go_wp2_with fail
      refine (O_body.out _ HK.out _ t4 _ _ R4.out.own Q3.out (by rw [(show t4.dp = st0.dp + 1 from by rw [R4.out.dp_eq, R3.out.dp_eq, R2.out.dp_eq]; rfl)]; omega) (by rw [(show t4.dp = st0.dp + 1 from by rw [R4.out.dp_eq, R3.out.dp_eq, R2.out.dp_eq]; rfl)]; omega) (by have h1 := HBK.out; have h2 := HC.out; have l2 := R2.out.len; have l3 := R3.out.len; have l4 := R4.out.len; simp only [RSt.inn] at *; omega)).mono ?_
      rintro e v5 ⟨rfl, t5, r5⟩
      have R5 := Lib.hid r5; clear r5 g3
      have g4 := Below.sub R5.out.own.old _ _ E4.out
      go_wp2_with fail
      refine (O_els.out _ HK.out _ t5 _ _ R5.out.own Q4.out (by rw [(show t5.dp = st0.dp + 1 from by rw [R5.out.dp_eq, R4.out.dp_eq, R3.out.dp_eq, R2.out.dp_eq]; rfl)]; omega) (by rw [(show t5.dp = st0.dp + 1 from by rw [R5.out.dp_eq, R4.out.dp_eq, R3.out.dp_eq, R2.out.dp_eq]; rfl)]; omega) (by have h1 := HBK.out; have h2 := HC.out; have l2 := R2.out.len; have l3 := R3.out.len; have l4 := R4.out.len; have l5 := R5.out.len; simp only [RSt.inn] at *; omega)).mono ?_
      rintro e v6 ⟨rfl, t6, r6⟩
      have R6 := Lib.hid r6; clear r6 g4
      obtain ⟨vz, hbz, _, _⟩ := R6.out.own.at_
      have c2z := (cell_at hbz 2).trans (show _ = some (.int .i64 (st0.dp + 1)) from by simp [R6.out.dp_eq, R5.out.dp_eq, R4.out.dp_eq, R3.out.dp_eq, R2.out.dp_eq, RSt.inn])
      have f2z := free_at hbz 2
      clear hbz
      go_wp2_with fail
      have hfin := RWr.inside HI1.out HI2.out hd (R2.out.trans (R3.out.trans (R4.out.trans (R5.out.trans (R6.out))))) st0.dp rfl
      have hn := RLoopSt.next HW.out hlt (hfin.as (by rw [encSt_eq]) (by rw [HC.out]; exact Nat.le_refl _) (by rw [HF.out, decide_eq_true (show st0.dp ≤ 100 by omega)]; simp [R6.out.dp_eq, R5.out.dp_eq, R4.out.dp_eq, R3.out.dp_eq, R2.out.dp_eq, RSt.inn, Bool.not_and]))
      clear hfin
      go_roundw
      case rel => exact ⟨k + 1, by omega, by go_num, hn⟩
      case measure => simp [intOf]; omega
    · rw [List.take_of_length_le (show l.length ≤ k by omega)] at hw2
      have HQ := Lib.hid hw2
      clear hw2
      go_wp2_with fail
      exact bodyPost_end (results_none rfl _ _ _) rfl ⟨rfl, _, HQ.out⟩
theorem wStL_size (W0 : World) (bw : Nat) : ∀ (n : Nat) (l : List St), SizeOf.sizeOf l < n → WStL W0 bw l
  | 0, _, h => absurd h (Nat.not_lt_zero _)
  | n + 1, l, h => rStL_any W0 bw l (fun t ht => wStL_size W0 bw n t.body (by
      have := List.sizeOf_lt_of_mem ht
      cases t
      simp only [St.mk.sizeOf_spec, St.body] at *
      omega)) (fun t ht => wStL_size W0 bw n t.els (by
      have := List.sizeOf_lt_of_mem ht
      cases t
      simp only [St.mk.sizeOf_spec, St.els] at *
      omega))
theorem wStLR (W0 : World) (bw : Nat) (l : List St) : WStL W0 bw l := wStL_size W0 bw _ l (Nat.lt_succ_self _)

def RLoopImp (W0 : World) (bw : Nat) (w : World) (st : RSt) (l : List Imp) (k : Nat) (wr : World) : Prop := ∃ st', RWr W0 bw w st (le8 l.length ++ encImpL (l.take k)) (8 + Imp.costL (l.take k)) false wr st'
theorem RLoopImp.next {W0 w wr w2 : World} {bw : Nat} {st st1 st2 : RSt} {l : List Imp} {k : Nat} (h : RWr W0 bw w st (le8 l.length ++ encImpL (l.take k)) (8 + Imp.costL (l.take k)) false wr st1) (hk : k < l.length) (q : RWr W0 bw wr st1 (encImp l[k]) (Imp.cost l[k]) false w2 st2) : RLoopImp W0 bw w st l (k + 1) w2 := by
  refine ⟨st2, (h.trans q).as ?_ ?_ rfl⟩
  · rw [encImpL_take l k hk, List.append_assoc]
  · rw [Imp.costL_take l k hk]; omega
set_option maxRecDepth 100000 in
set_option maxHeartbeats 800000 in
theorem rImpL_any (W0 : World) (bw : Nat) (l : List Imp) (w : World) (st : RSt) (A : Option Addr) (c : Nat) (h : RwS W0 w bw st) (hl : SL W0 2 (Imp.ds l) l.length A c) (hb : st.bs.length + (8 + Imp.costL l) ≤ 100000000000000) : Calls Try.prog 34 #[.pointer (some ⟨bw, 0, none⟩), .slice A l.length c] w (RPost W0 bw w st (le8 l.length ++ encImpL l) (8 + Imp.costL l) false) := by
  have hr := hl.2.2.1
  unfold Reach at hr
  have HI := Lib.hid (show In64 (l.length : Int) from by unfold In64; omega)
  have HL := Lib.hid hl; have HBB := Lib.hid hb; clear hl hb
  go_enter Try.func34, Try.ntmps34
  go_wp2_with fail
  refine (rnum_any W0 _ bw st _ h HI.out (by have := HBB.out; omega)).mono ?_
  rintro e w1 ⟨rfl, st1, q1⟩
  have hs : RLoopImp W0 bw w st l 0 w1 := ⟨st1, q1.as (by simp [encImpL]) (by simp [Imp.costL]) rfl⟩
  clear q1
  go_wp2_with fail
  go_loopw [4] (fun i wr => ∃ k : Nat, k ≤ l.length ∧ i = .int .i64 k ∧ RLoopImp W0 bw w st l k wr) (fun i _ => l.length - (intOf i).toNat)
  case atStart => exact ⟨0, Nat.zero_le _, rfl, hs⟩
  case round =>
    obtain ⟨k, hk, rfl, st2, hw2⟩ := hrel
    clear hs
    by_cases hlt : k < l.length
    · obtain ⟨b, o, hA, e0, e1, q0, q1⟩ := Imp.at HL.out.2.2.2 k hlt
      subst hA
      have hbk : st2.bs.length + Imp.cost l[k] ≤ 100000000000000 := hw2.bound (by have := HBB.out; have h1 := Imp.costL_take l k hlt; have h2 := Imp.costL_le l (k + 1); omega)
      have hsub := Below.sub hw2.own.old
      have f0 := hsub _ _ e0; have E0 := Lib.hid e0
      have f1 := hsub _ _ e1; have E1 := Lib.hid e1
      have hfl : st2.bs.length ≤ 100000000000000 := by omega
      have Q0 := Lib.hid q0; have Q1 := Lib.hid q1; have HW := Lib.hid hw2; have HBK := Lib.hid hbk; have HFL := Lib.hid hfl
      clear hw2 hsub hbk e0 e1 q0 q1 hfl
      go_wp2_with fail
      refine (full_any W0 _ bw st2 HW.out.own HFL.out).mono ?_
      rintro e w2 ⟨rfl, rfl⟩
      by_cases hf : 262144 < st2.bs.length
      · rw [decide_eq_true hf]
        have hfin : RWr W0 bw w st (le8 l.length ++ encImpL l) (8 + Imp.costL l) false wr st2 := by
          refine (HW.out.trans (RWr.full HW.out.own hf (encImpL (l.drop k)) 0)).as ?_ ?_ rfl
          · rw [List.append_assoc, ← encImpL_append, List.take_append_drop]
          · have := Imp.costL_le l k; omega
        have HQ := Lib.hid hfin
        clear hfin
        go_wp2_with fail
        exact bodyPost_end (results_none rfl _ _ _) rfl ⟨rfl, _, HQ.out⟩
      · rw [decide_eq_false hf]
        go_wp2_with fail
        refine (rtext_any W0 _ bw st2 _ HW.out.own Q0.out (by have := HBK.out; unfold Imp.cost at this; omega)).mono ?_
        rintro e w2 ⟨rfl, st3, r2⟩
        have R2 := Lib.hid r2; clear r2 f0 f1
        have g1 := Below.sub R2.out.own.old _ _ E1.out
        go_wp2_with fail
        refine (rnum_any W0 _ bw st3 _ R2.out.own Q1.out (by have := HBK.out; have := R2.out.len; unfold Imp.cost at *; omega)).mono ?_
        rintro e w3 ⟨rfl, st4, r3⟩
        have hn := RLoopImp.next HW.out hlt ((R2.out.trans r3).as (by rw [encImp_eq]) (by unfold Imp.cost; omega) rfl)
        clear r3
        go_wp2_with fail
        go_roundw
        case rel => exact ⟨k + 1, by omega, by go_num, hn⟩
        case measure => simp [intOf]; omega
    · rw [List.take_of_length_le (show l.length ≤ k by omega)] at hw2
      have HQ := Lib.hid hw2
      clear hw2
      go_wp2_with fail
      exact bodyPost_end (results_none rfl _ _ _) rfl ⟨rfl, _, HQ.out⟩
def RLoopFld (W0 : World) (bw kb : Nat) (ob : Obj) (w : World) (st : RSt) (l : List Fld) (k : Nat) (wr : World) : Prop := ∃ st', RWr W0 bw w st (le8 l.length ++ encFldL (l.take k)) (8 + Fld.costL (l.take k)) (!(l.take k).all fun f => fitTy f.type 0) wr st' ∧ RBoxed wr bw st' kb ob
theorem RLoopFld.next {W0 w wr w2 : World} {bw kb : Nat} {ob : Obj} {st st1 st2 : RSt} {l : List Fld} {k : Nat} (h : RWr W0 bw w st (le8 l.length ++ encFldL (l.take k)) (8 + Fld.costL (l.take k)) (!(l.take k).all fun f => fitTy f.type 0) wr st1) (hb : RBoxed wr bw st1 kb ob) (hk : k < l.length) (q : RWr W0 bw wr st1 (encFld l[k]) (Fld.cost l[k]) (!fitTy l[k].type 0) w2 st2) : RLoopFld W0 bw kb ob w st l (k + 1) w2 := by
  refine ⟨st2, (h.trans q).as ?_ ?_ ?_, hb.next q⟩
  · rw [encFldL_take l k hk, List.append_assoc]
  · rw [Fld.costL_take l k hk]; omega
  · rw [List.take_succ_eq_append_getElem hk, List.all_append, Bool.not_and]; simp
def WDcl (W0 : World) (bw : Nat) (t : Dcl) : Prop := ∀ (w : World) (st : RSt) (vs : List Value), RwS W0 w bw st → Vals W0 t.d vs → st.dp = 0 → st.bs.length + t.cost ≤ 100000000000000 → Calls Try.prog 36 #[.pointer (some ⟨bw, 0, none⟩), .agg vs.toArray] w (RPost W0 bw w st (encDcl t) t.cost (!shalD t))
set_option maxRecDepth 100000 in
set_option maxHeartbeats 1600000 in
theorem rDcl_any (W0 : World) (bw : Nat) (t : Dcl) : WDcl W0 bw t := by
  intro w0 st0 vs h hv hdp hb
  obtain ⟨A7, c7, A8, c8, A9, c9, rfl, q0, q1, q2, q3, q4, q5, q6, q7, q8, q9⟩ := Dcl.opn hv
  have hb0 := RBoxed.start h (.cells #[.int .i64 t.kind, .string t.name, .string t.of, .int .i64 t.value, .int .i64 t.type.kind, .string t.type.pkg, .string t.type.name, .slice A7 t.type.args.length c7, .slice A8 t.type.res.length c8, .slice A9 t.fields.length c9] 47)
  have h0 := h.grow ((Chg.refl _ w0).alloc (.cells #[.int .i64 t.kind, .string t.name, .string t.of, .int .i64 t.value, .int .i64 t.type.kind, .string t.type.pkg, .string t.type.name, .slice A7 t.type.args.length c7, .slice A8 t.type.res.length c8, .slice A9 t.fields.length c9] 47))
  have HG := Lib.hid ((Chg.refl (fun _ => False) w0).alloc (.cells #[.int .i64 t.kind, .string t.name, .string t.of, .int .i64 t.value, .int .i64 t.type.kind, .string t.type.pkg, .string t.type.name, .slice A7 t.type.args.length c7, .slice A8 t.type.res.length c8, .slice A9 t.fields.length c9] 47))
  have HB1 := Lib.hid hb0
  have H0 := Lib.hid h0
  have HBB := Lib.hid hb
  have HC := Lib.hid (Dcl.cost_eq t)
  have HDP := Lib.hid hdp
  have hr9 := q9.2.2.1
  unfold Reach at hr9
  have Q0 := Lib.hid q0; clear q0
  have Q1 := Lib.hid q1; clear q1
  have Q2 := Lib.hid q2; clear q2
  have Q3 := Lib.hid q3; clear q3
  have Q4 := Lib.hid q4; clear q4
  have Q5 := Lib.hid q5; clear q5
  have Q6 := Lib.hid q6; clear q6
  have Q7 := Lib.hid q7; clear q7
  have Q8 := Lib.hid q8; clear q8
  have Q9 := Lib.hid q9; clear q9
  clear hb0 h0 h hv hb hdp
  go_enter Try.func36, Try.ntmps36
  go_wp2_with fail
  refine (rnum_any W0 _ bw st0 _ H0.out Q0.out (by have h1 := HBB.out; have h2 := HC.out; omega)).mono ?_
  rintro e w2 ⟨rfl, st2, r2⟩
  have hb2 := HB1.out.next r2
  have R2 := Lib.hid r2; have HB2 := Lib.hid hb2; clear r2 hb2
  have d2_0 : w2.cell? ⟨w0.heap.size, 0, none⟩ = some (.int .i64 t.kind) := (cell_at HB2.out.at_ 0).trans rfl
  have d2_1 : w2.cell? ⟨w0.heap.size, 1, none⟩ = some (.string t.name) := (cell_at HB2.out.at_ 1).trans rfl
  have d2_2 : w2.cell? ⟨w0.heap.size, 2, none⟩ = some (.string t.of) := (cell_at HB2.out.at_ 2).trans rfl
  have d2_3 : w2.cell? ⟨w0.heap.size, 3, none⟩ = some (.int .i64 t.value) := (cell_at HB2.out.at_ 3).trans rfl
  have d2_4 : w2.cell? ⟨w0.heap.size, 4, none⟩ = some (.int .i64 t.type.kind) := (cell_at HB2.out.at_ 4).trans rfl
  have d2_5 : w2.cell? ⟨w0.heap.size, 5, none⟩ = some (.string t.type.pkg) := (cell_at HB2.out.at_ 5).trans rfl
  have d2_6 : w2.cell? ⟨w0.heap.size, 6, none⟩ = some (.string t.type.name) := (cell_at HB2.out.at_ 6).trans rfl
  have d2_7 : w2.cell? ⟨w0.heap.size, 7, none⟩ = some (.slice A7 t.type.args.length c7) := (cell_at HB2.out.at_ 7).trans rfl
  have d2_8 : w2.cell? ⟨w0.heap.size, 8, none⟩ = some (.slice A8 t.type.res.length c8) := (cell_at HB2.out.at_ 8).trans rfl
  have d2_9 : w2.cell? ⟨w0.heap.size, 9, none⟩ = some (.slice A9 t.fields.length c9) := (cell_at HB2.out.at_ 9).trans rfl
  go_wp2_with fail
  refine (rtext_any W0 _ bw st2 _ R2.out.own Q1.out (by have h1 := HBB.out; have h2 := HC.out; have l2 := R2.out.len; omega)).mono ?_
  rintro e w3 ⟨rfl, st3, r3⟩
  have hb3 := HB2.out.next r3
  clear d2_0 d2_1 d2_2 d2_3 d2_4 d2_5 d2_6 d2_7 d2_8 d2_9
  have R3 := Lib.hid r3; have HB3 := Lib.hid hb3; clear r3 hb3
  have d3_0 : w3.cell? ⟨w0.heap.size, 0, none⟩ = some (.int .i64 t.kind) := (cell_at HB3.out.at_ 0).trans rfl
  have d3_1 : w3.cell? ⟨w0.heap.size, 1, none⟩ = some (.string t.name) := (cell_at HB3.out.at_ 1).trans rfl
  have d3_2 : w3.cell? ⟨w0.heap.size, 2, none⟩ = some (.string t.of) := (cell_at HB3.out.at_ 2).trans rfl
  have d3_3 : w3.cell? ⟨w0.heap.size, 3, none⟩ = some (.int .i64 t.value) := (cell_at HB3.out.at_ 3).trans rfl
  have d3_4 : w3.cell? ⟨w0.heap.size, 4, none⟩ = some (.int .i64 t.type.kind) := (cell_at HB3.out.at_ 4).trans rfl
  have d3_5 : w3.cell? ⟨w0.heap.size, 5, none⟩ = some (.string t.type.pkg) := (cell_at HB3.out.at_ 5).trans rfl
  have d3_6 : w3.cell? ⟨w0.heap.size, 6, none⟩ = some (.string t.type.name) := (cell_at HB3.out.at_ 6).trans rfl
  have d3_7 : w3.cell? ⟨w0.heap.size, 7, none⟩ = some (.slice A7 t.type.args.length c7) := (cell_at HB3.out.at_ 7).trans rfl
  have d3_8 : w3.cell? ⟨w0.heap.size, 8, none⟩ = some (.slice A8 t.type.res.length c8) := (cell_at HB3.out.at_ 8).trans rfl
  have d3_9 : w3.cell? ⟨w0.heap.size, 9, none⟩ = some (.slice A9 t.fields.length c9) := (cell_at HB3.out.at_ 9).trans rfl
  go_wp2_with fail
  refine (rtext_any W0 _ bw st3 _ R3.out.own Q2.out (by have h1 := HBB.out; have h2 := HC.out; have l2 := R2.out.len; have l3 := R3.out.len; omega)).mono ?_
  rintro e w4 ⟨rfl, st4, r4⟩
  have hb4 := HB3.out.next r4
  clear d3_0 d3_1 d3_2 d3_3 d3_4 d3_5 d3_6 d3_7 d3_8 d3_9
  have R4 := Lib.hid r4; have HB4 := Lib.hid hb4; clear r4 hb4
  have d4_0 : w4.cell? ⟨w0.heap.size, 0, none⟩ = some (.int .i64 t.kind) := (cell_at HB4.out.at_ 0).trans rfl
  have d4_1 : w4.cell? ⟨w0.heap.size, 1, none⟩ = some (.string t.name) := (cell_at HB4.out.at_ 1).trans rfl
  have d4_2 : w4.cell? ⟨w0.heap.size, 2, none⟩ = some (.string t.of) := (cell_at HB4.out.at_ 2).trans rfl
  have d4_3 : w4.cell? ⟨w0.heap.size, 3, none⟩ = some (.int .i64 t.value) := (cell_at HB4.out.at_ 3).trans rfl
  have d4_4 : w4.cell? ⟨w0.heap.size, 4, none⟩ = some (.int .i64 t.type.kind) := (cell_at HB4.out.at_ 4).trans rfl
  have d4_5 : w4.cell? ⟨w0.heap.size, 5, none⟩ = some (.string t.type.pkg) := (cell_at HB4.out.at_ 5).trans rfl
  have d4_6 : w4.cell? ⟨w0.heap.size, 6, none⟩ = some (.string t.type.name) := (cell_at HB4.out.at_ 6).trans rfl
  have d4_7 : w4.cell? ⟨w0.heap.size, 7, none⟩ = some (.slice A7 t.type.args.length c7) := (cell_at HB4.out.at_ 7).trans rfl
  have d4_8 : w4.cell? ⟨w0.heap.size, 8, none⟩ = some (.slice A8 t.type.res.length c8) := (cell_at HB4.out.at_ 8).trans rfl
  have d4_9 : w4.cell? ⟨w0.heap.size, 9, none⟩ = some (.slice A9 t.fields.length c9) := (cell_at HB4.out.at_ 9).trans rfl
  go_wp2_with fail
  refine (rnum_any W0 _ bw st4 _ R4.out.own Q3.out (by have h1 := HBB.out; have h2 := HC.out; have l2 := R2.out.len; have l3 := R3.out.len; have l4 := R4.out.len; omega)).mono ?_
  rintro e w5 ⟨rfl, st5, r5⟩
  have hb5 := HB4.out.next r5
  clear d4_0 d4_1 d4_2 d4_3 d4_4 d4_5 d4_6 d4_7 d4_8 d4_9
  have R5 := Lib.hid r5; have HB5 := Lib.hid hb5; clear r5 hb5
  have d5_0 : w5.cell? ⟨w0.heap.size, 0, none⟩ = some (.int .i64 t.kind) := (cell_at HB5.out.at_ 0).trans rfl
  have d5_1 : w5.cell? ⟨w0.heap.size, 1, none⟩ = some (.string t.name) := (cell_at HB5.out.at_ 1).trans rfl
  have d5_2 : w5.cell? ⟨w0.heap.size, 2, none⟩ = some (.string t.of) := (cell_at HB5.out.at_ 2).trans rfl
  have d5_3 : w5.cell? ⟨w0.heap.size, 3, none⟩ = some (.int .i64 t.value) := (cell_at HB5.out.at_ 3).trans rfl
  have d5_4 : w5.cell? ⟨w0.heap.size, 4, none⟩ = some (.int .i64 t.type.kind) := (cell_at HB5.out.at_ 4).trans rfl
  have d5_5 : w5.cell? ⟨w0.heap.size, 5, none⟩ = some (.string t.type.pkg) := (cell_at HB5.out.at_ 5).trans rfl
  have d5_6 : w5.cell? ⟨w0.heap.size, 6, none⟩ = some (.string t.type.name) := (cell_at HB5.out.at_ 6).trans rfl
  have d5_7 : w5.cell? ⟨w0.heap.size, 7, none⟩ = some (.slice A7 t.type.args.length c7) := (cell_at HB5.out.at_ 7).trans rfl
  have d5_8 : w5.cell? ⟨w0.heap.size, 8, none⟩ = some (.slice A8 t.type.res.length c8) := (cell_at HB5.out.at_ 8).trans rfl
  have d5_9 : w5.cell? ⟨w0.heap.size, 9, none⟩ = some (.slice A9 t.fields.length c9) := (cell_at HB5.out.at_ 9).trans rfl
  go_wp2_with fail
  refine (wTyR W0 bw t.type _ st5 _ R5.out.own (Ty.shut (w := W0) (t := t.type) Q4.out Q5.out Q6.out Q7.out Q8.out) (by rw [(show st5.dp = 0 from by rw [R5.out.dp_eq, R4.out.dp_eq, R3.out.dp_eq, R2.out.dp_eq, HDP.out])]; omega) (by rw [(show st5.dp = 0 from by rw [R5.out.dp_eq, R4.out.dp_eq, R3.out.dp_eq, R2.out.dp_eq, HDP.out])]; omega) (by have h1 := HBB.out; have h2 := HC.out; have l2 := R2.out.len; have l3 := R3.out.len; have l4 := R4.out.len; have l5 := R5.out.len; omega)).mono ?_
  rintro e w6 ⟨rfl, st6, r6⟩
  have hb6 := HB5.out.next r6
  clear d5_0 d5_1 d5_2 d5_3 d5_4 d5_5 d5_6 d5_7 d5_8 d5_9
  have R6 := Lib.hid r6; have HB6 := Lib.hid hb6; clear r6 hb6
  have d6_0 : w6.cell? ⟨w0.heap.size, 0, none⟩ = some (.int .i64 t.kind) := (cell_at HB6.out.at_ 0).trans rfl
  have d6_1 : w6.cell? ⟨w0.heap.size, 1, none⟩ = some (.string t.name) := (cell_at HB6.out.at_ 1).trans rfl
  have d6_2 : w6.cell? ⟨w0.heap.size, 2, none⟩ = some (.string t.of) := (cell_at HB6.out.at_ 2).trans rfl
  have d6_3 : w6.cell? ⟨w0.heap.size, 3, none⟩ = some (.int .i64 t.value) := (cell_at HB6.out.at_ 3).trans rfl
  have d6_4 : w6.cell? ⟨w0.heap.size, 4, none⟩ = some (.int .i64 t.type.kind) := (cell_at HB6.out.at_ 4).trans rfl
  have d6_5 : w6.cell? ⟨w0.heap.size, 5, none⟩ = some (.string t.type.pkg) := (cell_at HB6.out.at_ 5).trans rfl
  have d6_6 : w6.cell? ⟨w0.heap.size, 6, none⟩ = some (.string t.type.name) := (cell_at HB6.out.at_ 6).trans rfl
  have d6_7 : w6.cell? ⟨w0.heap.size, 7, none⟩ = some (.slice A7 t.type.args.length c7) := (cell_at HB6.out.at_ 7).trans rfl
  have d6_8 : w6.cell? ⟨w0.heap.size, 8, none⟩ = some (.slice A8 t.type.res.length c8) := (cell_at HB6.out.at_ 8).trans rfl
  have d6_9 : w6.cell? ⟨w0.heap.size, 9, none⟩ = some (.slice A9 t.fields.length c9) := (cell_at HB6.out.at_ 9).trans rfl
  go_wp2_with fail
  refine (rnum_any W0 _ bw st6 _ R6.out.own (show In64 (t.fields.length : Int) from by unfold In64; omega) (by have h1 := HBB.out; have h2 := HC.out; have l2 := R2.out.len; have l3 := R3.out.len; have l4 := R4.out.len; have l5 := R5.out.len; have l6 := R6.out.len; omega)).mono ?_
  rintro e w7 ⟨rfl, st7, r7⟩
  have hb7 := HB6.out.next r7
  clear d6_0 d6_1 d6_2 d6_3 d6_4 d6_5 d6_6 d6_7 d6_8 d6_9
  have R7 := Lib.hid r7; have HB7 := Lib.hid hb7; clear r7 hb7
  have d7_0 : w7.cell? ⟨w0.heap.size, 0, none⟩ = some (.int .i64 t.kind) := (cell_at HB7.out.at_ 0).trans rfl
  have d7_1 : w7.cell? ⟨w0.heap.size, 1, none⟩ = some (.string t.name) := (cell_at HB7.out.at_ 1).trans rfl
  have d7_2 : w7.cell? ⟨w0.heap.size, 2, none⟩ = some (.string t.of) := (cell_at HB7.out.at_ 2).trans rfl
  have d7_3 : w7.cell? ⟨w0.heap.size, 3, none⟩ = some (.int .i64 t.value) := (cell_at HB7.out.at_ 3).trans rfl
  have d7_4 : w7.cell? ⟨w0.heap.size, 4, none⟩ = some (.int .i64 t.type.kind) := (cell_at HB7.out.at_ 4).trans rfl
  have d7_5 : w7.cell? ⟨w0.heap.size, 5, none⟩ = some (.string t.type.pkg) := (cell_at HB7.out.at_ 5).trans rfl
  have d7_6 : w7.cell? ⟨w0.heap.size, 6, none⟩ = some (.string t.type.name) := (cell_at HB7.out.at_ 6).trans rfl
  have d7_7 : w7.cell? ⟨w0.heap.size, 7, none⟩ = some (.slice A7 t.type.args.length c7) := (cell_at HB7.out.at_ 7).trans rfl
  have d7_8 : w7.cell? ⟨w0.heap.size, 8, none⟩ = some (.slice A8 t.type.res.length c8) := (cell_at HB7.out.at_ 8).trans rfl
  have d7_9 : w7.cell? ⟨w0.heap.size, 9, none⟩ = some (.slice A9 t.fields.length c9) := (cell_at HB7.out.at_ 9).trans rfl
  have hs : RLoopFld W0 bw w0.heap.size (.cells #[.int .i64 t.kind, .string t.name, .string t.of, .int .i64 t.value, .int .i64 t.type.kind, .string t.type.pkg, .string t.type.name, .slice A7 t.type.args.length c7, .slice A8 t.type.res.length c8, .slice A9 t.fields.length c9] 47) w6 st6 t.fields 0 w7 := ⟨st7, R7.out.as (by simp [encFldL]) (by simp [Fld.costL]) (by simp), HB7.out⟩
  clear d7_0 d7_1 d7_2 d7_3 d7_4 d7_5 d7_6 d7_7 d7_8
  go_wp2_with fail
  go_loopw [4] (fun i wr => ∃ k : Nat, k ≤ t.fields.length ∧ i = .int .i64 k ∧ RLoopFld W0 bw w0.heap.size (.cells #[.int .i64 t.kind, .string t.name, .string t.of, .int .i64 t.value, .int .i64 t.type.kind, .string t.type.pkg, .string t.type.name, .slice A7 t.type.args.length c7, .slice A8 t.type.res.length c8, .slice A9 t.fields.length c9] 47) w6 st6 t.fields k wr) (fun i _ => t.fields.length - (intOf i).toNat)
  case atStart => exact ⟨0, Nat.zero_le _, rfl, hs⟩
  case round =>
    obtain ⟨k, hk, rfl, st', hw, hbx⟩ := hrel
    clear hs
    have x9 : wr.cell? ⟨w0.heap.size, 9, none⟩ = some (.slice A9 t.fields.length c9) := (cell_at hbx.at_ 9).trans rfl
    have hdp' : st'.dp = 0 := by rw [hw.dp_eq, R6.out.dp_eq, R5.out.dp_eq, R4.out.dp_eq, R3.out.dp_eq, R2.out.dp_eq, HDP.out]
    by_cases hlt : k < t.fields.length
    · obtain ⟨b, o, hA, B4, d4, B5, d5, e0, e1, e2, e3, e4, e5, q0, q1, q2, q3, q4, q5⟩ := Fld.at Q9.out.2.2.2 k hlt
      subst hA
      have hbk : st'.bs.length + Fld.cost t.fields[k] ≤ 100000000000000 := by
        have h1 := HBB.out; have h2 := HC.out; have h3 := hw.len; have h4 := Fld.costL_take t.fields k hlt; have h5 := Fld.costL_le t.fields (k + 1)
        have l2 := R2.out.len; have l3 := R3.out.len; have l4 := R4.out.len; have l5 := R5.out.len; have l6 := R6.out.len
        omega
      have HV := Lib.hid (Ty.shut (w := W0) (t := t.fields[k].type) q1 q2 q3 q4 q5)
      have f0 := Below.sub hw.own.old _ _ e0
      have P0 := Lib.hid q0; have E1 := Lib.hid e1; have E2 := Lib.hid e2; have E3 := Lib.hid e3; have E4 := Lib.hid e4; have E5 := Lib.hid e5
      have HW := Lib.hid hw; have HBX := Lib.hid hbx; have HBK := Lib.hid hbk; have HD := Lib.hid hdp'
      clear hw hbx hbk hdp' e0 e1 e2 e3 e4 e5 q0 q1 q2 q3 q4 q5
      go_wp2_with fail
      refine (rtext_any W0 _ bw st' _ HW.out.own P0.out (by have := HBK.out; unfold Fld.cost at this; omega)).mono ?_
      rintro e v2 ⟨rfl, t2, r2⟩
      have hb2 := HBX.out.next r2
      have R20 := Lib.hid r2; clear r2 f0 x9
      have x9 : v2.cell? ⟨w0.heap.size, 9, none⟩ = some (.slice (some ⟨b, o, none⟩) t.fields.length c9) := (cell_at hb2.at_ 9).trans rfl
      have g1 := Below.sub R20.out.own.old _ _ E1.out; have g2 := Below.sub R20.out.own.old _ _ E2.out; have g3 := Below.sub R20.out.own.old _ _ E3.out; have g4 := Below.sub R20.out.own.old _ _ E4.out; have g5 := Below.sub R20.out.own.old _ _ E5.out
      clear hb2
      go_wp2_with fail
      refine (wTyR W0 bw t.fields[k].type _ t2 _ R20.out.own HV.out (by rw [R20.out.dp_eq, HD.out]; omega) (by rw [R20.out.dp_eq, HD.out]; omega) (by have := HBK.out; have := R20.out.len; unfold Fld.cost at *; omega)).mono ?_
      rintro e v3 ⟨rfl, t3, r3⟩
      have hn := RLoopFld.next HW.out HBX.out hlt ((R20.out.trans r3).as (by rw [encFld_eq]) (by unfold Fld.cost; omega) (by rw [R20.out.dp_eq, HD.out]; simp))
      clear r3
      go_wp2_with fail
      go_roundw
      case rel => exact ⟨k + 1, by omega, by go_num, hn⟩
      case measure => simp [intOf]; omega
    · rw [List.take_of_length_le (show t.fields.length ≤ k by omega)] at hw
      have HQ := Lib.hid hw
      clear hw hbx hdp'
      go_wp2_with fail
      have hfin := (R2.out.trans (R3.out.trans (R4.out.trans (R5.out.trans (R6.out.trans (HQ.out))))))
      refine bodyPost_end (results_none rfl _ _ _) rfl ⟨rfl, _, (hfin.after HG.out).as ?_ ?_ ?_⟩
      · rw [encDcl_eq]
      · rw [HC.out]; exact Nat.le_refl _
      · simp [R6.out.dp_eq, R5.out.dp_eq, R4.out.dp_eq, R3.out.dp_eq, R2.out.dp_eq, HDP.out, shalD, Bool.not_and]
def WFn (W0 : World) (bw : Nat) (t : Fn) : Prop := ∀ (w : World) (st : RSt) (vs : List Value), RwS W0 w bw st → Vals W0 t.d vs → st.dp = 0 → st.bs.length + t.cost ≤ 100000000000000 → Calls Try.prog 37 #[.pointer (some ⟨bw, 0, none⟩), .agg vs.toArray] w (RPost W0 bw w st (encFn t) t.cost (!shalF t))
set_option maxRecDepth 100000 in
set_option maxHeartbeats 1600000 in
theorem rFn_any (W0 : World) (bw : Nat) (t : Fn) : WFn W0 bw t := by
  intro w0 st0 vs h hv hdp hb
  obtain ⟨A4, c4, rfl, q0, q2, q3, q4⟩ := Fn.opn hv
  have hb0 := RBoxed.start h (.cells #[.string t.name, .bool t.weak, .int .i64 t.params, .int .i64 t.locals, .slice A4 t.body.length c4] 67)
  have h0 := h.grow ((Chg.refl _ w0).alloc (.cells #[.string t.name, .bool t.weak, .int .i64 t.params, .int .i64 t.locals, .slice A4 t.body.length c4] 67))
  have HG := Lib.hid ((Chg.refl (fun _ => False) w0).alloc (.cells #[.string t.name, .bool t.weak, .int .i64 t.params, .int .i64 t.locals, .slice A4 t.body.length c4] 67))
  have HB1 := Lib.hid hb0
  have H0 := Lib.hid h0
  have HBB := Lib.hid hb
  have HC := Lib.hid (Fn.cost_eq t)
  have HDP := Lib.hid hdp
  have Q0 := Lib.hid q0; clear q0
  have Q2 := Lib.hid q2; clear q2
  have Q3 := Lib.hid q3; clear q3
  have Q4 := Lib.hid q4; clear q4
  clear hb0 h0 h hv hb hdp
  go_enter Try.func37, Try.ntmps37
  go_wp2_with fail
  refine (rtext_any W0 _ bw st0 _ H0.out Q0.out (by have h1 := HBB.out; have h2 := HC.out; omega)).mono ?_
  rintro e w2 ⟨rfl, st2, r2⟩
  have hb2 := HB1.out.next r2
  have R2 := Lib.hid r2; have HB2 := Lib.hid hb2; clear r2 hb2
  have d2_0 : w2.cell? ⟨w0.heap.size, 0, none⟩ = some (.string t.name) := (cell_at HB2.out.at_ 0).trans rfl
  have d2_1 : w2.cell? ⟨w0.heap.size, 1, none⟩ = some (.bool t.weak) := (cell_at HB2.out.at_ 1).trans rfl
  have d2_2 : w2.cell? ⟨w0.heap.size, 2, none⟩ = some (.int .i64 t.params) := (cell_at HB2.out.at_ 2).trans rfl
  have d2_3 : w2.cell? ⟨w0.heap.size, 3, none⟩ = some (.int .i64 t.locals) := (cell_at HB2.out.at_ 3).trans rfl
  have d2_4 : w2.cell? ⟨w0.heap.size, 4, none⟩ = some (.slice A4 t.body.length c4) := (cell_at HB2.out.at_ 4).trans rfl
  go_wp2_with fail
  refine (rbool_any W0 _ bw st2 _ R2.out.own (by have h1 := HBB.out; have h2 := HC.out; have l2 := R2.out.len; omega)).mono ?_
  rintro e w3 ⟨rfl, st3, r3⟩
  have hb3 := HB2.out.next r3
  clear d2_0 d2_1 d2_2 d2_3 d2_4
  have R3 := Lib.hid r3; have HB3 := Lib.hid hb3; clear r3 hb3
  have d3_0 : w3.cell? ⟨w0.heap.size, 0, none⟩ = some (.string t.name) := (cell_at HB3.out.at_ 0).trans rfl
  have d3_1 : w3.cell? ⟨w0.heap.size, 1, none⟩ = some (.bool t.weak) := (cell_at HB3.out.at_ 1).trans rfl
  have d3_2 : w3.cell? ⟨w0.heap.size, 2, none⟩ = some (.int .i64 t.params) := (cell_at HB3.out.at_ 2).trans rfl
  have d3_3 : w3.cell? ⟨w0.heap.size, 3, none⟩ = some (.int .i64 t.locals) := (cell_at HB3.out.at_ 3).trans rfl
  have d3_4 : w3.cell? ⟨w0.heap.size, 4, none⟩ = some (.slice A4 t.body.length c4) := (cell_at HB3.out.at_ 4).trans rfl
  go_wp2_with fail
  refine (rnum_any W0 _ bw st3 _ R3.out.own Q2.out (by have h1 := HBB.out; have h2 := HC.out; have l2 := R2.out.len; have l3 := R3.out.len; omega)).mono ?_
  rintro e w4 ⟨rfl, st4, r4⟩
  have hb4 := HB3.out.next r4
  clear d3_0 d3_1 d3_2 d3_3 d3_4
  have R4 := Lib.hid r4; have HB4 := Lib.hid hb4; clear r4 hb4
  have d4_0 : w4.cell? ⟨w0.heap.size, 0, none⟩ = some (.string t.name) := (cell_at HB4.out.at_ 0).trans rfl
  have d4_1 : w4.cell? ⟨w0.heap.size, 1, none⟩ = some (.bool t.weak) := (cell_at HB4.out.at_ 1).trans rfl
  have d4_2 : w4.cell? ⟨w0.heap.size, 2, none⟩ = some (.int .i64 t.params) := (cell_at HB4.out.at_ 2).trans rfl
  have d4_3 : w4.cell? ⟨w0.heap.size, 3, none⟩ = some (.int .i64 t.locals) := (cell_at HB4.out.at_ 3).trans rfl
  have d4_4 : w4.cell? ⟨w0.heap.size, 4, none⟩ = some (.slice A4 t.body.length c4) := (cell_at HB4.out.at_ 4).trans rfl
  go_wp2_with fail
  refine (rnum_any W0 _ bw st4 _ R4.out.own Q3.out (by have h1 := HBB.out; have h2 := HC.out; have l2 := R2.out.len; have l3 := R3.out.len; have l4 := R4.out.len; omega)).mono ?_
  rintro e w5 ⟨rfl, st5, r5⟩
  have hb5 := HB4.out.next r5
  clear d4_0 d4_1 d4_2 d4_3 d4_4
  have R5 := Lib.hid r5; have HB5 := Lib.hid hb5; clear r5 hb5
  have d5_0 : w5.cell? ⟨w0.heap.size, 0, none⟩ = some (.string t.name) := (cell_at HB5.out.at_ 0).trans rfl
  have d5_1 : w5.cell? ⟨w0.heap.size, 1, none⟩ = some (.bool t.weak) := (cell_at HB5.out.at_ 1).trans rfl
  have d5_2 : w5.cell? ⟨w0.heap.size, 2, none⟩ = some (.int .i64 t.params) := (cell_at HB5.out.at_ 2).trans rfl
  have d5_3 : w5.cell? ⟨w0.heap.size, 3, none⟩ = some (.int .i64 t.locals) := (cell_at HB5.out.at_ 3).trans rfl
  have d5_4 : w5.cell? ⟨w0.heap.size, 4, none⟩ = some (.slice A4 t.body.length c4) := (cell_at HB5.out.at_ 4).trans rfl
  go_wp2_with fail
  refine (wStLR W0 bw t.body _ st5 _ _ R5.out.own Q4.out (by rw [(show st5.dp = 0 from by rw [R5.out.dp_eq, R4.out.dp_eq, R3.out.dp_eq, R2.out.dp_eq, HDP.out])]; omega) (by rw [(show st5.dp = 0 from by rw [R5.out.dp_eq, R4.out.dp_eq, R3.out.dp_eq, R2.out.dp_eq, HDP.out])]; omega) (by have h1 := HBB.out; have h2 := HC.out; have l2 := R2.out.len; have l3 := R3.out.len; have l4 := R4.out.len; have l5 := R5.out.len; omega)).mono ?_
  rintro e w6 ⟨rfl, st6, r6⟩
  have R6 := Lib.hid r6; clear r6
  go_wp2_with fail
  have hfin := (R2.out.trans (R3.out.trans (R4.out.trans (R5.out.trans (R6.out)))))
  refine bodyPost_end (results_none rfl _ _ _) rfl ⟨rfl, _, (hfin.after HG.out).as ?_ ?_ ?_⟩
  · rw [encFn_eq]
  · rw [HC.out]; exact Nat.le_refl _
  · simp [R6.out.dp_eq, R5.out.dp_eq, R4.out.dp_eq, R3.out.dp_eq, R2.out.dp_eq, HDP.out, shalF]
end Go.Proofs.Ytghnaaahkbnhlaa
