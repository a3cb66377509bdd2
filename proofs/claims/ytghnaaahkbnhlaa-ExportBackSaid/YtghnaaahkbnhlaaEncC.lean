/-
  The bytes of the plain types (pure), and the walks of export's puts and of the writer's methods over records. The conditions: as in XEncA; what is written reads in memory that the writer does not touch.
-/
import Derived.Test.YtghnaaahkbnhlaaEncB
import Derived.Test.YtghnaaahkbnhlaaData
namespace Go.Proofs.Ytghnaaahkbnhlaa
open Go.RowKit

mutual
def encTy : Ty → List UInt8
  | .mk x0 x1 x2 x3 x4 => le8 x0 ++ (txt x1 ++ (txt x2 ++ ((le8 x3.length ++ encTyL x3) ++ ((le8 x4.length ++ encTyL x4)))))
def encTyL : List Ty → List UInt8
  | [] => []
  | t :: r => encTy t ++ encTyL r
end
theorem encTy_eq (t : Ty) : encTy t = le8 t.kind ++ (txt t.pkg ++ (txt t.name ++ ((le8 t.args.length ++ encTyL t.args) ++ ((le8 t.res.length ++ encTyL t.res))))) := by cases t; simp only [encTy, Ty.kind, Ty.pkg, Ty.name, Ty.args, Ty.res]
theorem encTyL_append : ∀ a b : List Ty, encTyL (a ++ b) = encTyL a ++ encTyL b
  | [], b => by simp [encTyL]
  | t :: r, b => by simp [encTyL, encTyL_append r b]
theorem encTyL_take (l : List Ty) (k : Nat) (h : k < l.length) : encTyL (l.take (k + 1)) = encTyL (l.take k) ++ encTy l[k] := by
  rw [List.take_succ_eq_append_getElem h, encTyL_append]
  simp [encTyL]

def encFld (t : Fld) : List UInt8 := txt t.name ++ (encTy t.type)
def encFldL : List Fld → List UInt8
  | [] => []
  | t :: r => encFld t ++ encFldL r
theorem encFld_eq (t : Fld) : encFld t = txt t.name ++ (encTy t.type) := rfl
theorem encFldL_append : ∀ a b : List Fld, encFldL (a ++ b) = encFldL a ++ encFldL b
  | [], b => by simp [encFldL]
  | t :: r, b => by simp [encFldL, encFldL_append r b]
theorem encFldL_take (l : List Fld) (k : Nat) (h : k < l.length) : encFldL (l.take (k + 1)) = encFldL (l.take k) ++ encFld l[k] := by
  rw [List.take_succ_eq_append_getElem h, encFldL_append]
  simp [encFldL]

def encImp (t : Imp) : List UInt8 := txt t.name ++ (le8 t.hash)
def encImpL : List Imp → List UInt8
  | [] => []
  | t :: r => encImp t ++ encImpL r
theorem encImp_eq (t : Imp) : encImp t = txt t.name ++ (le8 t.hash) := rfl
theorem encImpL_append : ∀ a b : List Imp, encImpL (a ++ b) = encImpL a ++ encImpL b
  | [], b => by simp [encImpL]
  | t :: r, b => by simp [encImpL, encImpL_append r b]
theorem encImpL_take (l : List Imp) (k : Nat) (h : k < l.length) : encImpL (l.take (k + 1)) = encImpL (l.take k) ++ encImp l[k] := by
  rw [List.take_succ_eq_append_getElem h, encImpL_append]
  simp [encImpL]

def encDcl (t : Dcl) : List UInt8 := le8 t.kind ++ (txt t.name ++ (txt t.of ++ (le8 t.value ++ (encTy t.type ++ ((le8 t.fields.length ++ encFldL t.fields))))))
def encDclL : List Dcl → List UInt8
  | [] => []
  | t :: r => encDcl t ++ encDclL r
theorem encDcl_eq (t : Dcl) : encDcl t = le8 t.kind ++ (txt t.name ++ (txt t.of ++ (le8 t.value ++ (encTy t.type ++ ((le8 t.fields.length ++ encFldL t.fields)))))) := rfl
theorem encDclL_append : ∀ a b : List Dcl, encDclL (a ++ b) = encDclL a ++ encDclL b
  | [], b => by simp [encDclL]
  | t :: r, b => by simp [encDclL, encDclL_append r b]
theorem encDclL_take (l : List Dcl) (k : Nat) (h : k < l.length) : encDclL (l.take (k + 1)) = encDclL (l.take k) ++ encDcl l[k] := by
  rw [List.take_succ_eq_append_getElem h, encDclL_append]
  simp [encDclL]

mutual
def encEx : Ex → List UInt8
  | .mk x0 x1 x2 x3 => le8 x0 ++ (le8 x1 ++ (txt x2 ++ ((le8 x3.length ++ encExL x3))))
def encExL : List Ex → List UInt8
  | [] => []
  | t :: r => encEx t ++ encExL r
end
theorem encEx_eq (t : Ex) : encEx t = le8 t.op ++ (le8 t.n ++ (txt t.name ++ ((le8 t.kids.length ++ encExL t.kids)))) := by cases t; simp only [encEx, Ex.op, Ex.n, Ex.name, Ex.kids]
theorem encExL_append : ∀ a b : List Ex, encExL (a ++ b) = encExL a ++ encExL b
  | [], b => by simp [encExL]
  | t :: r, b => by simp [encExL, encExL_append r b]
theorem encExL_take (l : List Ex) (k : Nat) (h : k < l.length) : encExL (l.take (k + 1)) = encExL (l.take k) ++ encEx l[k] := by
  rw [List.take_succ_eq_append_getElem h, encExL_append]
  simp [encExL]

mutual
def encSt : St → List UInt8
  | .mk x0 x1 x2 x3 x4 => le8 x0 ++ (le8 x1 ++ ((le8 x2.length ++ encExL x2) ++ ((le8 x3.length ++ encStL x3) ++ ((le8 x4.length ++ encStL x4)))))
def encStL : List St → List UInt8
  | [] => []
  | t :: r => encSt t ++ encStL r
end
theorem encSt_eq (t : St) : encSt t = le8 t.op ++ (le8 t.n ++ ((le8 t.exprs.length ++ encExL t.exprs) ++ ((le8 t.body.length ++ encStL t.body) ++ ((le8 t.els.length ++ encStL t.els))))) := by cases t; simp only [encSt, St.op, St.n, St.exprs, St.body, St.els]
theorem encStL_append : ∀ a b : List St, encStL (a ++ b) = encStL a ++ encStL b
  | [], b => by simp [encStL]
  | t :: r, b => by simp [encStL, encStL_append r b]
theorem encStL_take (l : List St) (k : Nat) (h : k < l.length) : encStL (l.take (k + 1)) = encStL (l.take k) ++ encSt l[k] := by
  rw [List.take_succ_eq_append_getElem h, encStL_append]
  simp [encStL]

def encFn (t : Fn) : List UInt8 := txt t.name ++ (le8 (b2n t.weak) ++ (le8 t.params ++ (le8 t.locals ++ ((le8 t.body.length ++ encStL t.body)))))
def encFnL : List Fn → List UInt8
  | [] => []
  | t :: r => encFn t ++ encFnL r
theorem encFn_eq (t : Fn) : encFn t = txt t.name ++ (le8 (b2n t.weak) ++ (le8 t.params ++ (le8 t.locals ++ ((le8 t.body.length ++ encStL t.body))))) := rfl
theorem encFnL_append : ∀ a b : List Fn, encFnL (a ++ b) = encFnL a ++ encFnL b
  | [], b => by simp [encFnL]
  | t :: r, b => by simp [encFnL, encFnL_append r b]
theorem encFnL_take (l : List Fn) (k : Nat) (h : k < l.length) : encFnL (l.take (k + 1)) = encFnL (l.take k) ++ encFn l[k] := by
  rw [List.take_succ_eq_append_getElem h, encFnL_append]
  simp [encFnL]

/-- What one Ty owes where a list of them is written. -/
def OneTy (W0 : World) (bw : Nat) (t : Ty) : Prop := ∀ (w : World) (st : WSt) (vs : List Value), WrS W0 w bw st → Vals W0 t.d vs → Calls Try.prog 57 #[.pointer (some ⟨bw, 0, none⟩), .agg vs.toArray] w (WPost W0 bw w st (encTy t))
structure LoopTy (W0 w : World) (bw : Nat) (st : WSt) (l : List Ty) (k : Nat) (wr : World) (st' : WSt) : Prop where
  wrote : Wrote W0 bw w st (le8 l.length ++ encTyL (l.take k)) wr st'
def LoopETy (W0 w : World) (bw : Nat) (st : WSt) (l : List Ty) (k : Nat) (wr : World) : Prop := ∃ st', LoopTy W0 w bw st l k wr st'
theorem LoopETy.next {W0 w wr wb w2 : World} {bw : Nat} {st st1 st2 : WSt} {l : List Ty} {k : Nat} (h : LoopTy W0 w bw st l k wr st1) (hk : k < l.length) (hb : Chg (fun _ => False) wr wb) (q : Wrote W0 bw wb st1 (encTy l[k]) w2 st2) : LoopETy W0 w bw st l (k + 1) w2 := by
  refine ⟨st2, ⟨?_⟩⟩
  rw [encTyL_take l k hk, ← List.append_assoc]
  exact h.wrote.trans (q.after hb)
set_option maxRecDepth 100000 in
set_option maxHeartbeats 400000 in
theorem putsTy_any (W0 w : World) (bw : Nat) (st : WSt) (l : List Ty) (A : Option Addr) (c : Nat) (h : WrS W0 w bw st) (hl : SL W0 5 (Ty.ds l) l.length A c) (hone : ∀ t ∈ l, OneTy W0 bw t) :
    Calls Try.prog 87 #[.pointer (some ⟨bw, 0, none⟩), .slice A l.length c, .func (.func 57) #[] #[]] w (WPost W0 bw w st (le8 l.length ++ encTyL l)) := by
  have hr := hl.2.2.1
  unfold Reach at hr
  have HI := Lib.hid (show In64 (l.length : Int) from by unfold In64; omega)
  have HL := Lib.hid hl; clear hl
  have HO := Lib.hid hone; clear hone
  go_enter Try.func87, Try.ntmps87
  go_wp2_with fail
  refine (num_any W0 _ bw st _ h HI.out).mono ?_
  rintro e w1 ⟨rfl, st1, q1⟩
  have hs : LoopETy W0 w bw st l 0 w1 := ⟨st1, ⟨by simpa [encTyL] using q1⟩⟩
  clear q1
  go_wp2_with fail
  go_loopw [14] (fun i wr => ∃ k : Nat, k ≤ l.length ∧ i = .int .i64 k ∧ LoopETy W0 w bw st l k wr) (fun i _ => l.length - (intOf i).toNat)
  case atStart => exact ⟨0, Nat.zero_le _, rfl, hs⟩
  case round =>
    obtain ⟨k, hk, rfl, hw⟩ := hrel
    clear hs
    by_cases hlt : k < l.length
    · obtain ⟨b, o, hA, A3, c3, A4, c4, e0, e1, e2, e3, e4, q0, q1, q2, q3, q4⟩ := Ty.at HL.out.2.2.2 k hlt
      subst hA
      have HV := Lib.hid (Ty.shut (w := W0) (t := l[k]) q0 q1 q2 q3 q4)
      obtain ⟨st2, hw2⟩ := hw
      have hsub := Below.sub hw2.wrote.own.old
      have f0 := hsub _ _ e0
      have f1 := hsub _ _ e1
      have f2 := hsub _ _ e2
      have f3 := hsub _ _ e3
      have f4 := hsub _ _ e4
      have hown := hw2.wrote.own
      have HW := Lib.hid hw2
      clear hw2 hsub e0 e1 e2 e3 e4 q0 q1 q2 q3 q4
      go_wp2_with fail
      refine (HO.out l[k] (List.getElem_mem hlt) _ st2 _ (hown.grow ((Chg.refl _ _).alloc _)) HV.out).mono ?_
      rintro e w2 ⟨rfl, st3, q3⟩
      have hn := LoopETy.next HW.out hlt ((Chg.refl _ _).alloc _) q3
      clear q3 hown HW HV
      go_wp2_with fail
      go_roundw
      case rel => exact ⟨k + 1, by omega, by go_num, hn⟩
      case measure => simp [intOf]; omega
    · obtain ⟨st2, hw2⟩ := hw
      have hq := hw2.wrote
      rw [List.take_of_length_le (by omega)] at hq
      have HQ := Lib.hid hq
      clear hq hw2
      go_wp2_with fail
      exact bodyPost_end (results_none rfl _ _ _) rfl ⟨rfl, _, HQ.out⟩

set_option maxRecDepth 100000 in
set_option maxHeartbeats 400000 in
theorem wTy_any (W0 : World) (bw : Nat) (t : Ty) (o_args : ∀ x ∈ t.args, OneTy W0 bw x) (o_res : ∀ x ∈ t.res, OneTy W0 bw x) : OneTy W0 bw t := by
  intro w st vs h hv
  obtain ⟨A3, c3, A4, c4, rfl, q0, q1, q2, q3, q4⟩ := Ty.opn hv
  have hb0 := Boxed.start h (.cells #[.int .i64 t.kind, .string t.pkg, .string t.name, .slice A3 t.args.length c3, .slice A4 t.res.length c4] 44)
  have h0 := h.grow ((Chg.refl _ w).alloc (.cells #[.int .i64 t.kind, .string t.pkg, .string t.name, .slice A3 t.args.length c3, .slice A4 t.res.length c4] 44))
  have HB0 := Lib.hid hb0
  have H0 := Lib.hid h0
  have O_args := Lib.hid o_args; clear o_args
  have O_res := Lib.hid o_res; clear o_res
  have Q0 := Lib.hid q0; clear q0
  have Q1 := Lib.hid q1; clear q1
  have Q2 := Lib.hid q2; clear q2
  have Q3 := Lib.hid q3; clear q3
  have Q4 := Lib.hid q4; clear q4
  clear hb0 h0 h hv
  go_enter Try.func57, Try.ntmps57
  go_wp2_with fail
  refine (num_any W0 _ bw st _ H0.out Q0.out).mono ?_
  rintro e w1 ⟨rfl, st1, r1⟩
  have hb1 := HB0.out.next r1
  have d1_0 : w1.cell? ⟨w.heap.size, 0, none⟩ = some (.int .i64 t.kind) := (cell_at hb1.at_ 0).trans rfl
  have d1_1 : w1.cell? ⟨w.heap.size, 1, none⟩ = some (.string t.pkg) := (cell_at hb1.at_ 1).trans rfl
  have d1_2 : w1.cell? ⟨w.heap.size, 2, none⟩ = some (.string t.name) := (cell_at hb1.at_ 2).trans rfl
  have d1_3 : w1.cell? ⟨w.heap.size, 3, none⟩ = some (.slice A3 t.args.length c3) := (cell_at hb1.at_ 3).trans rfl
  have d1_4 : w1.cell? ⟨w.heap.size, 4, none⟩ = some (.slice A4 t.res.length c4) := (cell_at hb1.at_ 4).trans rfl
  have HB1 := Lib.hid hb1
  have h1 := r1.own
  have R1 := Lib.hid r1
  clear r1 hb1
  go_wp2_with fail
  refine (text_any W0 _ bw st1 _ h1 Q1.out).mono ?_
  rintro e w2 ⟨rfl, st2, r2⟩
  have hb2 := HB1.out.next r2
  have d2_0 : w2.cell? ⟨w.heap.size, 0, none⟩ = some (.int .i64 t.kind) := (cell_at hb2.at_ 0).trans rfl
  have d2_1 : w2.cell? ⟨w.heap.size, 1, none⟩ = some (.string t.pkg) := (cell_at hb2.at_ 1).trans rfl
  have d2_2 : w2.cell? ⟨w.heap.size, 2, none⟩ = some (.string t.name) := (cell_at hb2.at_ 2).trans rfl
  have d2_3 : w2.cell? ⟨w.heap.size, 3, none⟩ = some (.slice A3 t.args.length c3) := (cell_at hb2.at_ 3).trans rfl
  have d2_4 : w2.cell? ⟨w.heap.size, 4, none⟩ = some (.slice A4 t.res.length c4) := (cell_at hb2.at_ 4).trans rfl
  have HB2 := Lib.hid hb2
  have h2 := r2.own
  have R2 := Lib.hid r2
  clear r2 hb2 d1_0 d1_1 d1_2 d1_3 d1_4 h1
  go_wp2_with fail
  refine (text_any W0 _ bw st2 _ h2 Q2.out).mono ?_
  rintro e w3 ⟨rfl, st3, r3⟩
  have hb3 := HB2.out.next r3
  have d3_0 : w3.cell? ⟨w.heap.size, 0, none⟩ = some (.int .i64 t.kind) := (cell_at hb3.at_ 0).trans rfl
  have d3_1 : w3.cell? ⟨w.heap.size, 1, none⟩ = some (.string t.pkg) := (cell_at hb3.at_ 1).trans rfl
  have d3_2 : w3.cell? ⟨w.heap.size, 2, none⟩ = some (.string t.name) := (cell_at hb3.at_ 2).trans rfl
  have d3_3 : w3.cell? ⟨w.heap.size, 3, none⟩ = some (.slice A3 t.args.length c3) := (cell_at hb3.at_ 3).trans rfl
  have d3_4 : w3.cell? ⟨w.heap.size, 4, none⟩ = some (.slice A4 t.res.length c4) := (cell_at hb3.at_ 4).trans rfl
  have HB3 := Lib.hid hb3
  have h3 := r3.own
  have R3 := Lib.hid r3
  clear r3 hb3 d2_0 d2_1 d2_2 d2_3 d2_4 h2
  go_wp2_with fail
  refine (putsTy_any W0 _ bw st3 t.args _ _ h3 Q3.out O_args.out).mono ?_
  rintro e w4 ⟨rfl, st4, r4⟩
  have hb4 := HB3.out.next r4
  have d4_0 : w4.cell? ⟨w.heap.size, 0, none⟩ = some (.int .i64 t.kind) := (cell_at hb4.at_ 0).trans rfl
  have d4_1 : w4.cell? ⟨w.heap.size, 1, none⟩ = some (.string t.pkg) := (cell_at hb4.at_ 1).trans rfl
  have d4_2 : w4.cell? ⟨w.heap.size, 2, none⟩ = some (.string t.name) := (cell_at hb4.at_ 2).trans rfl
  have d4_3 : w4.cell? ⟨w.heap.size, 3, none⟩ = some (.slice A3 t.args.length c3) := (cell_at hb4.at_ 3).trans rfl
  have d4_4 : w4.cell? ⟨w.heap.size, 4, none⟩ = some (.slice A4 t.res.length c4) := (cell_at hb4.at_ 4).trans rfl
  have HB4 := Lib.hid hb4
  have h4 := r4.own
  have R4 := Lib.hid r4
  clear r4 hb4 d3_0 d3_1 d3_2 d3_3 d3_4 h3
  go_wp2_with fail
  refine (putsTy_any W0 _ bw st4 t.res _ _ h4 Q4.out O_res.out).mono ?_
  rintro e w5 ⟨rfl, st5, r5⟩
  have R5 := Lib.hid r5
  clear r5
  go_wp2_with fail
  have hfin : Wrote W0 bw w st (encTy t) w5 st5 := by
    rw [encTy_eq]
    exact Wrote.after ((Chg.refl _ _).alloc _) (R1.out.trans (R2.out.trans (R3.out.trans (R4.out.trans (R5.out)))))
  exact bodyPost_end (results_none rfl _ _ _) rfl ⟨rfl, _, hfin⟩

/-- What one Fld owes where a list of them is written. -/
def OneFld (W0 : World) (bw : Nat) (t : Fld) : Prop := ∀ (w : World) (st : WSt) (vs : List Value), WrS W0 w bw st → Vals W0 t.d vs → Calls Try.prog 59 #[.pointer (some ⟨bw, 0, none⟩), .agg vs.toArray] w (WPost W0 bw w st (encFld t))
structure LoopFld (W0 w : World) (bw : Nat) (st : WSt) (l : List Fld) (k : Nat) (wr : World) (st' : WSt) : Prop where
  wrote : Wrote W0 bw w st (le8 l.length ++ encFldL (l.take k)) wr st'
def LoopEFld (W0 w : World) (bw : Nat) (st : WSt) (l : List Fld) (k : Nat) (wr : World) : Prop := ∃ st', LoopFld W0 w bw st l k wr st'
theorem LoopEFld.next {W0 w wr wb w2 : World} {bw : Nat} {st st1 st2 : WSt} {l : List Fld} {k : Nat} (h : LoopFld W0 w bw st l k wr st1) (hk : k < l.length) (hb : Chg (fun _ => False) wr wb) (q : Wrote W0 bw wb st1 (encFld l[k]) w2 st2) : LoopEFld W0 w bw st l (k + 1) w2 := by
  refine ⟨st2, ⟨?_⟩⟩
  rw [encFldL_take l k hk, ← List.append_assoc]
  exact h.wrote.trans (q.after hb)
set_option maxRecDepth 100000 in
set_option maxHeartbeats 400000 in
theorem putsFld_any (W0 w : World) (bw : Nat) (st : WSt) (l : List Fld) (A : Option Addr) (c : Nat) (h : WrS W0 w bw st) (hl : SL W0 6 (Fld.ds l) l.length A c) (hone : ∀ t ∈ l, OneFld W0 bw t) :
    Calls Try.prog 58 #[.pointer (some ⟨bw, 0, none⟩), .slice A l.length c, .func (.func 59) #[] #[]] w (WPost W0 bw w st (le8 l.length ++ encFldL l)) := by
  have hr := hl.2.2.1
  unfold Reach at hr
  have HI := Lib.hid (show In64 (l.length : Int) from by unfold In64; omega)
  have HL := Lib.hid hl; clear hl
  have HO := Lib.hid hone; clear hone
  go_enter Try.func58, Try.ntmps58
  go_wp2_with fail
  refine (num_any W0 _ bw st _ h HI.out).mono ?_
  rintro e w1 ⟨rfl, st1, q1⟩
  have hs : LoopEFld W0 w bw st l 0 w1 := ⟨st1, ⟨by simpa [encFldL] using q1⟩⟩
  clear q1
  go_wp2_with fail
  go_loopw [14] (fun i wr => ∃ k : Nat, k ≤ l.length ∧ i = .int .i64 k ∧ LoopEFld W0 w bw st l k wr) (fun i _ => l.length - (intOf i).toNat)
  case atStart => exact ⟨0, Nat.zero_le _, rfl, hs⟩
  case round =>
    obtain ⟨k, hk, rfl, hw⟩ := hrel
    clear hs
    by_cases hlt : k < l.length
    · obtain ⟨b, o, hA, A4, c4, A5, c5, e0, e1, e2, e3, e4, e5, q0, q1, q2, q3, q4, q5⟩ := Fld.at HL.out.2.2.2 k hlt
      subst hA
      have HV := Lib.hid (Fld.shut (w := W0) (t := l[k]) q0 q1 q2 q3 q4 q5)
      obtain ⟨st2, hw2⟩ := hw
      have hsub := Below.sub hw2.wrote.own.old
      have f0 := hsub _ _ e0
      have f1 := hsub _ _ e1
      have f2 := hsub _ _ e2
      have f3 := hsub _ _ e3
      have f4 := hsub _ _ e4
      have f5 := hsub _ _ e5
      have hown := hw2.wrote.own
      have HW := Lib.hid hw2
      clear hw2 hsub e0 e1 e2 e3 e4 e5 q0 q1 q2 q3 q4 q5
      go_wp2_with fail
      refine (HO.out l[k] (List.getElem_mem hlt) _ st2 _ (hown.grow ((Chg.refl _ _).alloc _)) HV.out).mono ?_
      rintro e w2 ⟨rfl, st3, q3⟩
      have hn := LoopEFld.next HW.out hlt ((Chg.refl _ _).alloc _) q3
      clear q3 hown HW HV
      go_wp2_with fail
      go_roundw
      case rel => exact ⟨k + 1, by omega, by go_num, hn⟩
      case measure => simp [intOf]; omega
    · obtain ⟨st2, hw2⟩ := hw
      have hq := hw2.wrote
      rw [List.take_of_length_le (by omega)] at hq
      have HQ := Lib.hid hq
      clear hq hw2
      go_wp2_with fail
      exact bodyPost_end (results_none rfl _ _ _) rfl ⟨rfl, _, HQ.out⟩

set_option maxRecDepth 100000 in
set_option maxHeartbeats 400000 in
theorem wFld_any (W0 : World) (bw : Nat) (t : Fld) (o_type : OneTy W0 bw t.type) : OneFld W0 bw t := by
  intro w st vs h hv
  obtain ⟨A4, c4, A5, c5, rfl, q0, q1, q2, q3, q4, q5⟩ := Fld.opn hv
  have hb0 := Boxed.start h (.cells #[.string t.name, .int .i64 t.type.kind, .string t.type.pkg, .string t.type.name, .slice A4 t.type.args.length c4, .slice A5 t.type.res.length c5] 93)
  have h0 := h.grow ((Chg.refl _ w).alloc (.cells #[.string t.name, .int .i64 t.type.kind, .string t.type.pkg, .string t.type.name, .slice A4 t.type.args.length c4, .slice A5 t.type.res.length c5] 93))
  have HB0 := Lib.hid hb0
  have H0 := Lib.hid h0
  have O_type := Lib.hid o_type; clear o_type
  have Q0 := Lib.hid q0; clear q0
  have Q1 := Lib.hid q1; clear q1
  have Q2 := Lib.hid q2; clear q2
  have Q3 := Lib.hid q3; clear q3
  have Q4 := Lib.hid q4; clear q4
  have Q5 := Lib.hid q5; clear q5
  clear hb0 h0 h hv
  go_enter Try.func59, Try.ntmps59
  go_wp2_with fail
  refine (text_any W0 _ bw st _ H0.out Q0.out).mono ?_
  rintro e w1 ⟨rfl, st1, r1⟩
  have hb1 := HB0.out.next r1
  have d1_0 : w1.cell? ⟨w.heap.size, 0, none⟩ = some (.string t.name) := (cell_at hb1.at_ 0).trans rfl
  have d1_1 : w1.cell? ⟨w.heap.size, 1, none⟩ = some (.int .i64 t.type.kind) := (cell_at hb1.at_ 1).trans rfl
  have d1_2 : w1.cell? ⟨w.heap.size, 2, none⟩ = some (.string t.type.pkg) := (cell_at hb1.at_ 2).trans rfl
  have d1_3 : w1.cell? ⟨w.heap.size, 3, none⟩ = some (.string t.type.name) := (cell_at hb1.at_ 3).trans rfl
  have d1_4 : w1.cell? ⟨w.heap.size, 4, none⟩ = some (.slice A4 t.type.args.length c4) := (cell_at hb1.at_ 4).trans rfl
  have d1_5 : w1.cell? ⟨w.heap.size, 5, none⟩ = some (.slice A5 t.type.res.length c5) := (cell_at hb1.at_ 5).trans rfl
  have HB1 := Lib.hid hb1
  have h1 := r1.own
  have R1 := Lib.hid r1
  clear r1 hb1
  go_wp2_with fail
  refine (O_type.out _ st1 _ h1 (Ty.shut (w := W0) (t := t.type) Q1.out Q2.out Q3.out Q4.out Q5.out)).mono ?_
  rintro e w2 ⟨rfl, st2, r2⟩
  have R2 := Lib.hid r2
  clear r2
  go_wp2_with fail
  have hfin : Wrote W0 bw w st (encFld t) w2 st2 := by
    rw [encFld_eq]
    exact Wrote.after ((Chg.refl _ _).alloc _) (R1.out.trans (R2.out))
  exact bodyPost_end (results_none rfl _ _ _) rfl ⟨rfl, _, hfin⟩

/-- What one Imp owes where a list of them is written. -/
def OneImp (W0 : World) (bw : Nat) (t : Imp) : Prop := ∀ (w : World) (st : WSt) (vs : List Value), WrS W0 w bw st → Vals W0 t.d vs → Calls Try.prog 25 #[.pointer (some ⟨bw, 0, none⟩), .agg vs.toArray] w (WPost W0 bw w st (encImp t))
structure LoopImp (W0 w : World) (bw : Nat) (st : WSt) (l : List Imp) (k : Nat) (wr : World) (st' : WSt) : Prop where
  wrote : Wrote W0 bw w st (le8 l.length ++ encImpL (l.take k)) wr st'
def LoopEImp (W0 w : World) (bw : Nat) (st : WSt) (l : List Imp) (k : Nat) (wr : World) : Prop := ∃ st', LoopImp W0 w bw st l k wr st'
theorem LoopEImp.next {W0 w wr wb w2 : World} {bw : Nat} {st st1 st2 : WSt} {l : List Imp} {k : Nat} (h : LoopImp W0 w bw st l k wr st1) (hk : k < l.length) (hb : Chg (fun _ => False) wr wb) (q : Wrote W0 bw wb st1 (encImp l[k]) w2 st2) : LoopEImp W0 w bw st l (k + 1) w2 := by
  refine ⟨st2, ⟨?_⟩⟩
  rw [encImpL_take l k hk, ← List.append_assoc]
  exact h.wrote.trans (q.after hb)
set_option maxRecDepth 100000 in
set_option maxHeartbeats 400000 in
theorem putsImp_any (W0 w : World) (bw : Nat) (st : WSt) (l : List Imp) (A : Option Addr) (c : Nat) (h : WrS W0 w bw st) (hl : SL W0 2 (Imp.ds l) l.length A c) (hone : ∀ t ∈ l, OneImp W0 bw t) :
    Calls Try.prog 24 #[.pointer (some ⟨bw, 0, none⟩), .slice A l.length c, .func (.func 25) #[] #[]] w (WPost W0 bw w st (le8 l.length ++ encImpL l)) := by
  have hr := hl.2.2.1
  unfold Reach at hr
  have HI := Lib.hid (show In64 (l.length : Int) from by unfold In64; omega)
  have HL := Lib.hid hl; clear hl
  have HO := Lib.hid hone; clear hone
  go_enter Try.func24, Try.ntmps24
  go_wp2_with fail
  refine (num_any W0 _ bw st _ h HI.out).mono ?_
  rintro e w1 ⟨rfl, st1, q1⟩
  have hs : LoopEImp W0 w bw st l 0 w1 := ⟨st1, ⟨by simpa [encImpL] using q1⟩⟩
  clear q1
  go_wp2_with fail
  go_loopw [14] (fun i wr => ∃ k : Nat, k ≤ l.length ∧ i = .int .i64 k ∧ LoopEImp W0 w bw st l k wr) (fun i _ => l.length - (intOf i).toNat)
  case atStart => exact ⟨0, Nat.zero_le _, rfl, hs⟩
  case round =>
    obtain ⟨k, hk, rfl, hw⟩ := hrel
    clear hs
    by_cases hlt : k < l.length
    · obtain ⟨b, o, hA, e0, e1, q0, q1⟩ := Imp.at HL.out.2.2.2 k hlt
      subst hA
      have HV := Lib.hid (Imp.shut (w := W0) (t := l[k]) q0 q1)
      obtain ⟨st2, hw2⟩ := hw
      have hsub := Below.sub hw2.wrote.own.old
      have f0 := hsub _ _ e0
      have f1 := hsub _ _ e1
      have hown := hw2.wrote.own
      have HW := Lib.hid hw2
      clear hw2 hsub e0 e1 q0 q1
      go_wp2_with fail
      refine (HO.out l[k] (List.getElem_mem hlt) _ st2 _ (hown.grow ((Chg.refl _ _).alloc _)) HV.out).mono ?_
      rintro e w2 ⟨rfl, st3, q3⟩
      have hn := LoopEImp.next HW.out hlt ((Chg.refl _ _).alloc _) q3
      clear q3 hown HW HV
      go_wp2_with fail
      go_roundw
      case rel => exact ⟨k + 1, by omega, by go_num, hn⟩
      case measure => simp [intOf]; omega
    · obtain ⟨st2, hw2⟩ := hw
      have hq := hw2.wrote
      rw [List.take_of_length_le (by omega)] at hq
      have HQ := Lib.hid hq
      clear hq hw2
      go_wp2_with fail
      exact bodyPost_end (results_none rfl _ _ _) rfl ⟨rfl, _, HQ.out⟩

set_option maxRecDepth 100000 in
set_option maxHeartbeats 400000 in
theorem wImp_any (W0 : World) (bw : Nat) (t : Imp)  : OneImp W0 bw t := by
  intro w st vs h hv
  obtain ⟨rfl, q0, q1⟩ := Imp.opn hv
  have hb0 := Boxed.start h (.cells #[.string t.name, .int .i64 t.hash] 58)
  have h0 := h.grow ((Chg.refl _ w).alloc (.cells #[.string t.name, .int .i64 t.hash] 58))
  have HB0 := Lib.hid hb0
  have H0 := Lib.hid h0
  have Q0 := Lib.hid q0; clear q0
  have Q1 := Lib.hid q1; clear q1
  clear hb0 h0 h hv
  go_enter Try.func25, Try.ntmps25
  go_wp2_with fail
  refine (text_any W0 _ bw st _ H0.out Q0.out).mono ?_
  rintro e w1 ⟨rfl, st1, r1⟩
  have hb1 := HB0.out.next r1
  have d1_0 : w1.cell? ⟨w.heap.size, 0, none⟩ = some (.string t.name) := (cell_at hb1.at_ 0).trans rfl
  have d1_1 : w1.cell? ⟨w.heap.size, 1, none⟩ = some (.int .i64 t.hash) := (cell_at hb1.at_ 1).trans rfl
  have HB1 := Lib.hid hb1
  have h1 := r1.own
  have R1 := Lib.hid r1
  clear r1 hb1
  go_wp2_with fail
  refine (num_any W0 _ bw st1 _ h1 Q1.out).mono ?_
  rintro e w2 ⟨rfl, st2, r2⟩
  have R2 := Lib.hid r2
  clear r2
  go_wp2_with fail
  have hfin : Wrote W0 bw w st (encImp t) w2 st2 := by
    rw [encImp_eq]
    exact Wrote.after ((Chg.refl _ _).alloc _) (R1.out.trans (R2.out))
  exact bodyPost_end (results_none rfl _ _ _) rfl ⟨rfl, _, hfin⟩

/-- What one Dcl owes where a list of them is written. -/
def OneDcl (W0 : World) (bw : Nat) (t : Dcl) : Prop := ∀ (w : World) (st : WSt) (vs : List Value), WrS W0 w bw st → Vals W0 t.d vs → Calls Try.prog 27 #[.pointer (some ⟨bw, 0, none⟩), .agg vs.toArray] w (WPost W0 bw w st (encDcl t))
structure LoopDcl (W0 w : World) (bw : Nat) (st : WSt) (l : List Dcl) (k : Nat) (wr : World) (st' : WSt) : Prop where
  wrote : Wrote W0 bw w st (le8 l.length ++ encDclL (l.take k)) wr st'
def LoopEDcl (W0 w : World) (bw : Nat) (st : WSt) (l : List Dcl) (k : Nat) (wr : World) : Prop := ∃ st', LoopDcl W0 w bw st l k wr st'
theorem LoopEDcl.next {W0 w wr wb w2 : World} {bw : Nat} {st st1 st2 : WSt} {l : List Dcl} {k : Nat} (h : LoopDcl W0 w bw st l k wr st1) (hk : k < l.length) (hb : Chg (fun _ => False) wr wb) (q : Wrote W0 bw wb st1 (encDcl l[k]) w2 st2) : LoopEDcl W0 w bw st l (k + 1) w2 := by
  refine ⟨st2, ⟨?_⟩⟩
  rw [encDclL_take l k hk, ← List.append_assoc]
  exact h.wrote.trans (q.after hb)
set_option maxRecDepth 100000 in
set_option maxHeartbeats 400000 in
theorem putsDcl_any (W0 w : World) (bw : Nat) (st : WSt) (l : List Dcl) (A : Option Addr) (c : Nat) (h : WrS W0 w bw st) (hl : SL W0 10 (Dcl.ds l) l.length A c) (hone : ∀ t ∈ l, OneDcl W0 bw t) :
    Calls Try.prog 26 #[.pointer (some ⟨bw, 0, none⟩), .slice A l.length c, .func (.func 27) #[] #[]] w (WPost W0 bw w st (le8 l.length ++ encDclL l)) := by
  have hr := hl.2.2.1
  unfold Reach at hr
  have HI := Lib.hid (show In64 (l.length : Int) from by unfold In64; omega)
  have HL := Lib.hid hl; clear hl
  have HO := Lib.hid hone; clear hone
  go_enter Try.func26, Try.ntmps26
  go_wp2_with fail
  refine (num_any W0 _ bw st _ h HI.out).mono ?_
  rintro e w1 ⟨rfl, st1, q1⟩
  have hs : LoopEDcl W0 w bw st l 0 w1 := ⟨st1, ⟨by simpa [encDclL] using q1⟩⟩
  clear q1
  go_wp2_with fail
  go_loopw [14] (fun i wr => ∃ k : Nat, k ≤ l.length ∧ i = .int .i64 k ∧ LoopEDcl W0 w bw st l k wr) (fun i _ => l.length - (intOf i).toNat)
  case atStart => exact ⟨0, Nat.zero_le _, rfl, hs⟩
  case round =>
    obtain ⟨k, hk, rfl, hw⟩ := hrel
    clear hs
    by_cases hlt : k < l.length
    · obtain ⟨b, o, hA, A7, c7, A8, c8, A9, c9, e0, e1, e2, e3, e4, e5, e6, e7, e8, e9, q0, q1, q2, q3, q4, q5, q6, q7, q8, q9⟩ := Dcl.at HL.out.2.2.2 k hlt
      subst hA
      have HV := Lib.hid (Dcl.shut (w := W0) (t := l[k]) q0 q1 q2 q3 q4 q5 q6 q7 q8 q9)
      obtain ⟨st2, hw2⟩ := hw
      have hsub := Below.sub hw2.wrote.own.old
      have f0 := hsub _ _ e0
      have f1 := hsub _ _ e1
      have f2 := hsub _ _ e2
      have f3 := hsub _ _ e3
      have f4 := hsub _ _ e4
      have f5 := hsub _ _ e5
      have f6 := hsub _ _ e6
      have f7 := hsub _ _ e7
      have f8 := hsub _ _ e8
      have f9 := hsub _ _ e9
      have hown := hw2.wrote.own
      have HW := Lib.hid hw2
      clear hw2 hsub e0 e1 e2 e3 e4 e5 e6 e7 e8 e9 q0 q1 q2 q3 q4 q5 q6 q7 q8 q9
      go_wp2_with fail
      refine (HO.out l[k] (List.getElem_mem hlt) _ st2 _ (hown.grow ((Chg.refl _ _).alloc _)) HV.out).mono ?_
      rintro e w2 ⟨rfl, st3, q3⟩
      have hn := LoopEDcl.next HW.out hlt ((Chg.refl _ _).alloc _) q3
      clear q3 hown HW HV
      go_wp2_with fail
      go_roundw
      case rel => exact ⟨k + 1, by omega, by go_num, hn⟩
      case measure => simp [intOf]; omega
    · obtain ⟨st2, hw2⟩ := hw
      have hq := hw2.wrote
      rw [List.take_of_length_le (by omega)] at hq
      have HQ := Lib.hid hq
      clear hq hw2
      go_wp2_with fail
      exact bodyPost_end (results_none rfl _ _ _) rfl ⟨rfl, _, HQ.out⟩

set_option maxRecDepth 100000 in
set_option maxHeartbeats 400000 in
theorem wDcl_any (W0 : World) (bw : Nat) (t : Dcl) (o_type : OneTy W0 bw t.type) (o_fields : ∀ x ∈ t.fields, OneFld W0 bw x) : OneDcl W0 bw t := by
  intro w st vs h hv
  obtain ⟨A7, c7, A8, c8, A9, c9, rfl, q0, q1, q2, q3, q4, q5, q6, q7, q8, q9⟩ := Dcl.opn hv
  have hb0 := Boxed.start h (.cells #[.int .i64 t.kind, .string t.name, .string t.of, .int .i64 t.value, .int .i64 t.type.kind, .string t.type.pkg, .string t.type.name, .slice A7 t.type.args.length c7, .slice A8 t.type.res.length c8, .slice A9 t.fields.length c9] 47)
  have h0 := h.grow ((Chg.refl _ w).alloc (.cells #[.int .i64 t.kind, .string t.name, .string t.of, .int .i64 t.value, .int .i64 t.type.kind, .string t.type.pkg, .string t.type.name, .slice A7 t.type.args.length c7, .slice A8 t.type.res.length c8, .slice A9 t.fields.length c9] 47))
  have HB0 := Lib.hid hb0
  have H0 := Lib.hid h0
  have O_type := Lib.hid o_type; clear o_type
  have O_fields := Lib.hid o_fields; clear o_fields
  have Q0 := Lib.hid q0; clear q0
  have Q1 := Lib.hid q1; clear q1
  have Q2 := Lib.hid q2; clear q2
  have Q3 := Lib.hid q3; clear q3
  have Q4 := Lib.hid q4; clear q4
  have Q5 := Lib.hid q5; clear q5
  have Q6 := Lib.hid q6; clear q6
  have Q7 := Lib.hid q7; clear q7
  have Q8 := Lib.hid q8; clear q8
  have Q9 := Lib.hid q9; clear q9
  clear hb0 h0 h hv
  go_enter Try.func27, Try.ntmps27
  go_wp2_with fail
  refine (num_any W0 _ bw st _ H0.out Q0.out).mono ?_
  rintro e w1 ⟨rfl, st1, r1⟩
  have hb1 := HB0.out.next r1
  have d1_0 : w1.cell? ⟨w.heap.size, 0, none⟩ = some (.int .i64 t.kind) := (cell_at hb1.at_ 0).trans rfl
  have d1_1 : w1.cell? ⟨w.heap.size, 1, none⟩ = some (.string t.name) := (cell_at hb1.at_ 1).trans rfl
  have d1_2 : w1.cell? ⟨w.heap.size, 2, none⟩ = some (.string t.of) := (cell_at hb1.at_ 2).trans rfl
  have d1_3 : w1.cell? ⟨w.heap.size, 3, none⟩ = some (.int .i64 t.value) := (cell_at hb1.at_ 3).trans rfl
  have d1_4 : w1.cell? ⟨w.heap.size, 4, none⟩ = some (.int .i64 t.type.kind) := (cell_at hb1.at_ 4).trans rfl
  have d1_5 : w1.cell? ⟨w.heap.size, 5, none⟩ = some (.string t.type.pkg) := (cell_at hb1.at_ 5).trans rfl
  have d1_6 : w1.cell? ⟨w.heap.size, 6, none⟩ = some (.string t.type.name) := (cell_at hb1.at_ 6).trans rfl
  have d1_7 : w1.cell? ⟨w.heap.size, 7, none⟩ = some (.slice A7 t.type.args.length c7) := (cell_at hb1.at_ 7).trans rfl
  have d1_8 : w1.cell? ⟨w.heap.size, 8, none⟩ = some (.slice A8 t.type.res.length c8) := (cell_at hb1.at_ 8).trans rfl
  have d1_9 : w1.cell? ⟨w.heap.size, 9, none⟩ = some (.slice A9 t.fields.length c9) := (cell_at hb1.at_ 9).trans rfl
  have HB1 := Lib.hid hb1
  have h1 := r1.own
  have R1 := Lib.hid r1
  clear r1 hb1
  go_wp2_with fail
  refine (text_any W0 _ bw st1 _ h1 Q1.out).mono ?_
  rintro e w2 ⟨rfl, st2, r2⟩
  have hb2 := HB1.out.next r2
  have d2_0 : w2.cell? ⟨w.heap.size, 0, none⟩ = some (.int .i64 t.kind) := (cell_at hb2.at_ 0).trans rfl
  have d2_1 : w2.cell? ⟨w.heap.size, 1, none⟩ = some (.string t.name) := (cell_at hb2.at_ 1).trans rfl
  have d2_2 : w2.cell? ⟨w.heap.size, 2, none⟩ = some (.string t.of) := (cell_at hb2.at_ 2).trans rfl
  have d2_3 : w2.cell? ⟨w.heap.size, 3, none⟩ = some (.int .i64 t.value) := (cell_at hb2.at_ 3).trans rfl
  have d2_4 : w2.cell? ⟨w.heap.size, 4, none⟩ = some (.int .i64 t.type.kind) := (cell_at hb2.at_ 4).trans rfl
  have d2_5 : w2.cell? ⟨w.heap.size, 5, none⟩ = some (.string t.type.pkg) := (cell_at hb2.at_ 5).trans rfl
  have d2_6 : w2.cell? ⟨w.heap.size, 6, none⟩ = some (.string t.type.name) := (cell_at hb2.at_ 6).trans rfl
  have d2_7 : w2.cell? ⟨w.heap.size, 7, none⟩ = some (.slice A7 t.type.args.length c7) := (cell_at hb2.at_ 7).trans rfl
  have d2_8 : w2.cell? ⟨w.heap.size, 8, none⟩ = some (.slice A8 t.type.res.length c8) := (cell_at hb2.at_ 8).trans rfl
  have d2_9 : w2.cell? ⟨w.heap.size, 9, none⟩ = some (.slice A9 t.fields.length c9) := (cell_at hb2.at_ 9).trans rfl
  have HB2 := Lib.hid hb2
  have h2 := r2.own
  have R2 := Lib.hid r2
  clear r2 hb2 d1_0 d1_1 d1_2 d1_3 d1_4 d1_5 d1_6 d1_7 d1_8 d1_9 h1
  go_wp2_with fail
  refine (text_any W0 _ bw st2 _ h2 Q2.out).mono ?_
  rintro e w3 ⟨rfl, st3, r3⟩
  have hb3 := HB2.out.next r3
  have d3_0 : w3.cell? ⟨w.heap.size, 0, none⟩ = some (.int .i64 t.kind) := (cell_at hb3.at_ 0).trans rfl
  have d3_1 : w3.cell? ⟨w.heap.size, 1, none⟩ = some (.string t.name) := (cell_at hb3.at_ 1).trans rfl
  have d3_2 : w3.cell? ⟨w.heap.size, 2, none⟩ = some (.string t.of) := (cell_at hb3.at_ 2).trans rfl
  have d3_3 : w3.cell? ⟨w.heap.size, 3, none⟩ = some (.int .i64 t.value) := (cell_at hb3.at_ 3).trans rfl
  have d3_4 : w3.cell? ⟨w.heap.size, 4, none⟩ = some (.int .i64 t.type.kind) := (cell_at hb3.at_ 4).trans rfl
  have d3_5 : w3.cell? ⟨w.heap.size, 5, none⟩ = some (.string t.type.pkg) := (cell_at hb3.at_ 5).trans rfl
  have d3_6 : w3.cell? ⟨w.heap.size, 6, none⟩ = some (.string t.type.name) := (cell_at hb3.at_ 6).trans rfl
  have d3_7 : w3.cell? ⟨w.heap.size, 7, none⟩ = some (.slice A7 t.type.args.length c7) := (cell_at hb3.at_ 7).trans rfl
  have d3_8 : w3.cell? ⟨w.heap.size, 8, none⟩ = some (.slice A8 t.type.res.length c8) := (cell_at hb3.at_ 8).trans rfl
  have d3_9 : w3.cell? ⟨w.heap.size, 9, none⟩ = some (.slice A9 t.fields.length c9) := (cell_at hb3.at_ 9).trans rfl
  have HB3 := Lib.hid hb3
  have h3 := r3.own
  have R3 := Lib.hid r3
  clear r3 hb3 d2_0 d2_1 d2_2 d2_3 d2_4 d2_5 d2_6 d2_7 d2_8 d2_9 h2
  go_wp2_with fail
  refine (num_any W0 _ bw st3 _ h3 Q3.out).mono ?_
  rintro e w4 ⟨rfl, st4, r4⟩
  have hb4 := HB3.out.next r4
  have d4_0 : w4.cell? ⟨w.heap.size, 0, none⟩ = some (.int .i64 t.kind) := (cell_at hb4.at_ 0).trans rfl
  have d4_1 : w4.cell? ⟨w.heap.size, 1, none⟩ = some (.string t.name) := (cell_at hb4.at_ 1).trans rfl
  have d4_2 : w4.cell? ⟨w.heap.size, 2, none⟩ = some (.string t.of) := (cell_at hb4.at_ 2).trans rfl
  have d4_3 : w4.cell? ⟨w.heap.size, 3, none⟩ = some (.int .i64 t.value) := (cell_at hb4.at_ 3).trans rfl
  have d4_4 : w4.cell? ⟨w.heap.size, 4, none⟩ = some (.int .i64 t.type.kind) := (cell_at hb4.at_ 4).trans rfl
  have d4_5 : w4.cell? ⟨w.heap.size, 5, none⟩ = some (.string t.type.pkg) := (cell_at hb4.at_ 5).trans rfl
  have d4_6 : w4.cell? ⟨w.heap.size, 6, none⟩ = some (.string t.type.name) := (cell_at hb4.at_ 6).trans rfl
  have d4_7 : w4.cell? ⟨w.heap.size, 7, none⟩ = some (.slice A7 t.type.args.length c7) := (cell_at hb4.at_ 7).trans rfl
  have d4_8 : w4.cell? ⟨w.heap.size, 8, none⟩ = some (.slice A8 t.type.res.length c8) := (cell_at hb4.at_ 8).trans rfl
  have d4_9 : w4.cell? ⟨w.heap.size, 9, none⟩ = some (.slice A9 t.fields.length c9) := (cell_at hb4.at_ 9).trans rfl
  have HB4 := Lib.hid hb4
  have h4 := r4.own
  have R4 := Lib.hid r4
  clear r4 hb4 d3_0 d3_1 d3_2 d3_3 d3_4 d3_5 d3_6 d3_7 d3_8 d3_9 h3
  go_wp2_with fail
  refine (O_type.out _ st4 _ h4 (Ty.shut (w := W0) (t := t.type) Q4.out Q5.out Q6.out Q7.out Q8.out)).mono ?_
  rintro e w5 ⟨rfl, st5, r5⟩
  have hb5 := HB4.out.next r5
  have d5_0 : w5.cell? ⟨w.heap.size, 0, none⟩ = some (.int .i64 t.kind) := (cell_at hb5.at_ 0).trans rfl
  have d5_1 : w5.cell? ⟨w.heap.size, 1, none⟩ = some (.string t.name) := (cell_at hb5.at_ 1).trans rfl
  have d5_2 : w5.cell? ⟨w.heap.size, 2, none⟩ = some (.string t.of) := (cell_at hb5.at_ 2).trans rfl
  have d5_3 : w5.cell? ⟨w.heap.size, 3, none⟩ = some (.int .i64 t.value) := (cell_at hb5.at_ 3).trans rfl
  have d5_4 : w5.cell? ⟨w.heap.size, 4, none⟩ = some (.int .i64 t.type.kind) := (cell_at hb5.at_ 4).trans rfl
  have d5_5 : w5.cell? ⟨w.heap.size, 5, none⟩ = some (.string t.type.pkg) := (cell_at hb5.at_ 5).trans rfl
  have d5_6 : w5.cell? ⟨w.heap.size, 6, none⟩ = some (.string t.type.name) := (cell_at hb5.at_ 6).trans rfl
  have d5_7 : w5.cell? ⟨w.heap.size, 7, none⟩ = some (.slice A7 t.type.args.length c7) := (cell_at hb5.at_ 7).trans rfl
  have d5_8 : w5.cell? ⟨w.heap.size, 8, none⟩ = some (.slice A8 t.type.res.length c8) := (cell_at hb5.at_ 8).trans rfl
  have d5_9 : w5.cell? ⟨w.heap.size, 9, none⟩ = some (.slice A9 t.fields.length c9) := (cell_at hb5.at_ 9).trans rfl
  have HB5 := Lib.hid hb5
  have h5 := r5.own
  have R5 := Lib.hid r5
  clear r5 hb5 d4_0 d4_1 d4_2 d4_3 d4_4 d4_5 d4_6 d4_7 d4_8 d4_9 h4
  go_wp2_with fail
  refine (putsFld_any W0 _ bw st5 t.fields _ _ h5 Q9.out O_fields.out).mono ?_
  rintro e w6 ⟨rfl, st6, r6⟩
  have R6 := Lib.hid r6
  clear r6
  go_wp2_with fail
  have hfin : Wrote W0 bw w st (encDcl t) w6 st6 := by
    rw [encDcl_eq]
    exact Wrote.after ((Chg.refl _ _).alloc _) (R1.out.trans (R2.out.trans (R3.out.trans (R4.out.trans (R5.out.trans (R6.out))))))
  exact bodyPost_end (results_none rfl _ _ _) rfl ⟨rfl, _, hfin⟩

/-- What one Ex owes where a list of them is written. -/
def OneEx (W0 : World) (bw : Nat) (t : Ex) : Prop := ∀ (w : World) (st : WSt) (vs : List Value), WrS W0 w bw st → Vals W0 t.d vs → Calls Try.prog 89 #[.pointer (some ⟨bw, 0, none⟩), .agg vs.toArray] w (WPost W0 bw w st (encEx t))
structure LoopEx (W0 w : World) (bw : Nat) (st : WSt) (l : List Ex) (k : Nat) (wr : World) (st' : WSt) : Prop where
  wrote : Wrote W0 bw w st (le8 l.length ++ encExL (l.take k)) wr st'
def LoopEEx (W0 w : World) (bw : Nat) (st : WSt) (l : List Ex) (k : Nat) (wr : World) : Prop := ∃ st', LoopEx W0 w bw st l k wr st'
theorem LoopEEx.next {W0 w wr wb w2 : World} {bw : Nat} {st st1 st2 : WSt} {l : List Ex} {k : Nat} (h : LoopEx W0 w bw st l k wr st1) (hk : k < l.length) (hb : Chg (fun _ => False) wr wb) (q : Wrote W0 bw wb st1 (encEx l[k]) w2 st2) : LoopEEx W0 w bw st l (k + 1) w2 := by
  refine ⟨st2, ⟨?_⟩⟩
  rw [encExL_take l k hk, ← List.append_assoc]
  exact h.wrote.trans (q.after hb)
set_option maxRecDepth 100000 in
set_option maxHeartbeats 400000 in
theorem putsEx_any (W0 w : World) (bw : Nat) (st : WSt) (l : List Ex) (A : Option Addr) (c : Nat) (h : WrS W0 w bw st) (hl : SL W0 4 (Ex.ds l) l.length A c) (hone : ∀ t ∈ l, OneEx W0 bw t) :
    Calls Try.prog 88 #[.pointer (some ⟨bw, 0, none⟩), .slice A l.length c, .func (.func 89) #[] #[]] w (WPost W0 bw w st (le8 l.length ++ encExL l)) := by
  have hr := hl.2.2.1
  unfold Reach at hr
  have HI := Lib.hid (show In64 (l.length : Int) from by unfold In64; omega)
  have HL := Lib.hid hl; clear hl
  have HO := Lib.hid hone; clear hone
  go_enter Try.func88, Try.ntmps88
  go_wp2_with fail
  refine (num_any W0 _ bw st _ h HI.out).mono ?_
  rintro e w1 ⟨rfl, st1, q1⟩
  have hs : LoopEEx W0 w bw st l 0 w1 := ⟨st1, ⟨by simpa [encExL] using q1⟩⟩
  clear q1
  go_wp2_with fail
  go_loopw [14] (fun i wr => ∃ k : Nat, k ≤ l.length ∧ i = .int .i64 k ∧ LoopEEx W0 w bw st l k wr) (fun i _ => l.length - (intOf i).toNat)
  case atStart => exact ⟨0, Nat.zero_le _, rfl, hs⟩
  case round =>
    obtain ⟨k, hk, rfl, hw⟩ := hrel
    clear hs
    by_cases hlt : k < l.length
    · obtain ⟨b, o, hA, A3, c3, e0, e1, e2, e3, q0, q1, q2, q3⟩ := Ex.at HL.out.2.2.2 k hlt
      subst hA
      have HV := Lib.hid (Ex.shut (w := W0) (t := l[k]) q0 q1 q2 q3)
      obtain ⟨st2, hw2⟩ := hw
      have hsub := Below.sub hw2.wrote.own.old
      have f0 := hsub _ _ e0
      have f1 := hsub _ _ e1
      have f2 := hsub _ _ e2
      have f3 := hsub _ _ e3
      have hown := hw2.wrote.own
      have HW := Lib.hid hw2
      clear hw2 hsub e0 e1 e2 e3 q0 q1 q2 q3
      go_wp2_with fail
      refine (HO.out l[k] (List.getElem_mem hlt) _ st2 _ (hown.grow ((Chg.refl _ _).alloc _)) HV.out).mono ?_
      rintro e w2 ⟨rfl, st3, q3⟩
      have hn := LoopEEx.next HW.out hlt ((Chg.refl _ _).alloc _) q3
      clear q3 hown HW HV
      go_wp2_with fail
      go_roundw
      case rel => exact ⟨k + 1, by omega, by go_num, hn⟩
      case measure => simp [intOf]; omega
    · obtain ⟨st2, hw2⟩ := hw
      have hq := hw2.wrote
      rw [List.take_of_length_le (by omega)] at hq
      have HQ := Lib.hid hq
      clear hq hw2
      go_wp2_with fail
      exact bodyPost_end (results_none rfl _ _ _) rfl ⟨rfl, _, HQ.out⟩

set_option maxRecDepth 100000 in
set_option maxHeartbeats 400000 in
theorem wEx_any (W0 : World) (bw : Nat) (t : Ex) (o_kids : ∀ x ∈ t.kids, OneEx W0 bw x) : OneEx W0 bw t := by
  intro w st vs h hv
  obtain ⟨A3, c3, rfl, q0, q1, q2, q3⟩ := Ex.opn hv
  have hb0 := Boxed.start h (.cells #[.int .i64 t.op, .int .i64 t.n, .string t.name, .slice A3 t.kids.length c3] 132)
  have h0 := h.grow ((Chg.refl _ w).alloc (.cells #[.int .i64 t.op, .int .i64 t.n, .string t.name, .slice A3 t.kids.length c3] 132))
  have HB0 := Lib.hid hb0
  have H0 := Lib.hid h0
  have O_kids := Lib.hid o_kids; clear o_kids
  have Q0 := Lib.hid q0; clear q0
  have Q1 := Lib.hid q1; clear q1
  have Q2 := Lib.hid q2; clear q2
  have Q3 := Lib.hid q3; clear q3
  clear hb0 h0 h hv
  go_enter Try.func89, Try.ntmps89
  go_wp2_with fail
  refine (num_any W0 _ bw st _ H0.out Q0.out).mono ?_
  rintro e w1 ⟨rfl, st1, r1⟩
  have hb1 := HB0.out.next r1
  have d1_0 : w1.cell? ⟨w.heap.size, 0, none⟩ = some (.int .i64 t.op) := (cell_at hb1.at_ 0).trans rfl
  have d1_1 : w1.cell? ⟨w.heap.size, 1, none⟩ = some (.int .i64 t.n) := (cell_at hb1.at_ 1).trans rfl
  have d1_2 : w1.cell? ⟨w.heap.size, 2, none⟩ = some (.string t.name) := (cell_at hb1.at_ 2).trans rfl
  have d1_3 : w1.cell? ⟨w.heap.size, 3, none⟩ = some (.slice A3 t.kids.length c3) := (cell_at hb1.at_ 3).trans rfl
  have HB1 := Lib.hid hb1
  have h1 := r1.own
  have R1 := Lib.hid r1
  clear r1 hb1
  go_wp2_with fail
  refine (num_any W0 _ bw st1 _ h1 Q1.out).mono ?_
  rintro e w2 ⟨rfl, st2, r2⟩
  have hb2 := HB1.out.next r2
  have d2_0 : w2.cell? ⟨w.heap.size, 0, none⟩ = some (.int .i64 t.op) := (cell_at hb2.at_ 0).trans rfl
  have d2_1 : w2.cell? ⟨w.heap.size, 1, none⟩ = some (.int .i64 t.n) := (cell_at hb2.at_ 1).trans rfl
  have d2_2 : w2.cell? ⟨w.heap.size, 2, none⟩ = some (.string t.name) := (cell_at hb2.at_ 2).trans rfl
  have d2_3 : w2.cell? ⟨w.heap.size, 3, none⟩ = some (.slice A3 t.kids.length c3) := (cell_at hb2.at_ 3).trans rfl
  have HB2 := Lib.hid hb2
  have h2 := r2.own
  have R2 := Lib.hid r2
  clear r2 hb2 d1_0 d1_1 d1_2 d1_3 h1
  go_wp2_with fail
  refine (text_any W0 _ bw st2 _ h2 Q2.out).mono ?_
  rintro e w3 ⟨rfl, st3, r3⟩
  have hb3 := HB2.out.next r3
  have d3_0 : w3.cell? ⟨w.heap.size, 0, none⟩ = some (.int .i64 t.op) := (cell_at hb3.at_ 0).trans rfl
  have d3_1 : w3.cell? ⟨w.heap.size, 1, none⟩ = some (.int .i64 t.n) := (cell_at hb3.at_ 1).trans rfl
  have d3_2 : w3.cell? ⟨w.heap.size, 2, none⟩ = some (.string t.name) := (cell_at hb3.at_ 2).trans rfl
  have d3_3 : w3.cell? ⟨w.heap.size, 3, none⟩ = some (.slice A3 t.kids.length c3) := (cell_at hb3.at_ 3).trans rfl
  have HB3 := Lib.hid hb3
  have h3 := r3.own
  have R3 := Lib.hid r3
  clear r3 hb3 d2_0 d2_1 d2_2 d2_3 h2
  go_wp2_with fail
  refine (putsEx_any W0 _ bw st3 t.kids _ _ h3 Q3.out O_kids.out).mono ?_
  rintro e w4 ⟨rfl, st4, r4⟩
  have R4 := Lib.hid r4
  clear r4
  go_wp2_with fail
  have hfin : Wrote W0 bw w st (encEx t) w4 st4 := by
    rw [encEx_eq]
    exact Wrote.after ((Chg.refl _ _).alloc _) (R1.out.trans (R2.out.trans (R3.out.trans (R4.out))))
  exact bodyPost_end (results_none rfl _ _ _) rfl ⟨rfl, _, hfin⟩

/-- What one St owes where a list of them is written. -/
def OneSt (W0 : World) (bw : Nat) (t : St) : Prop := ∀ (w : World) (st : WSt) (vs : List Value), WrS W0 w bw st → Vals W0 t.d vs → Calls Try.prog 62 #[.pointer (some ⟨bw, 0, none⟩), .agg vs.toArray] w (WPost W0 bw w st (encSt t))
structure LoopSt (W0 w : World) (bw : Nat) (st : WSt) (l : List St) (k : Nat) (wr : World) (st' : WSt) : Prop where
  wrote : Wrote W0 bw w st (le8 l.length ++ encStL (l.take k)) wr st'
def LoopESt (W0 w : World) (bw : Nat) (st : WSt) (l : List St) (k : Nat) (wr : World) : Prop := ∃ st', LoopSt W0 w bw st l k wr st'
theorem LoopESt.next {W0 w wr wb w2 : World} {bw : Nat} {st st1 st2 : WSt} {l : List St} {k : Nat} (h : LoopSt W0 w bw st l k wr st1) (hk : k < l.length) (hb : Chg (fun _ => False) wr wb) (q : Wrote W0 bw wb st1 (encSt l[k]) w2 st2) : LoopESt W0 w bw st l (k + 1) w2 := by
  refine ⟨st2, ⟨?_⟩⟩
  rw [encStL_take l k hk, ← List.append_assoc]
  exact h.wrote.trans (q.after hb)
set_option maxRecDepth 100000 in
set_option maxHeartbeats 400000 in
theorem putsSt_any (W0 w : World) (bw : Nat) (st : WSt) (l : List St) (A : Option Addr) (c : Nat) (h : WrS W0 w bw st) (hl : SL W0 5 (St.ds l) l.length A c) (hone : ∀ t ∈ l, OneSt W0 bw t) :
    Calls Try.prog 61 #[.pointer (some ⟨bw, 0, none⟩), .slice A l.length c, .func (.func 62) #[] #[]] w (WPost W0 bw w st (le8 l.length ++ encStL l)) := by
  have hr := hl.2.2.1
  unfold Reach at hr
  have HI := Lib.hid (show In64 (l.length : Int) from by unfold In64; omega)
  have HL := Lib.hid hl; clear hl
  have HO := Lib.hid hone; clear hone
  go_enter Try.func61, Try.ntmps61
  go_wp2_with fail
  refine (num_any W0 _ bw st _ h HI.out).mono ?_
  rintro e w1 ⟨rfl, st1, q1⟩
  have hs : LoopESt W0 w bw st l 0 w1 := ⟨st1, ⟨by simpa [encStL] using q1⟩⟩
  clear q1
  go_wp2_with fail
  go_loopw [14] (fun i wr => ∃ k : Nat, k ≤ l.length ∧ i = .int .i64 k ∧ LoopESt W0 w bw st l k wr) (fun i _ => l.length - (intOf i).toNat)
  case atStart => exact ⟨0, Nat.zero_le _, rfl, hs⟩
  case round =>
    obtain ⟨k, hk, rfl, hw⟩ := hrel
    clear hs
    by_cases hlt : k < l.length
    · obtain ⟨b, o, hA, A2, c2, A3, c3, A4, c4, e0, e1, e2, e3, e4, q0, q1, q2, q3, q4⟩ := St.at HL.out.2.2.2 k hlt
      subst hA
      have HV := Lib.hid (St.shut (w := W0) (t := l[k]) q0 q1 q2 q3 q4)
      obtain ⟨st2, hw2⟩ := hw
      have hsub := Below.sub hw2.wrote.own.old
      have f0 := hsub _ _ e0
      have f1 := hsub _ _ e1
      have f2 := hsub _ _ e2
      have f3 := hsub _ _ e3
      have f4 := hsub _ _ e4
      have hown := hw2.wrote.own
      have HW := Lib.hid hw2
      clear hw2 hsub e0 e1 e2 e3 e4 q0 q1 q2 q3 q4
      go_wp2_with fail
      refine (HO.out l[k] (List.getElem_mem hlt) _ st2 _ (hown.grow ((Chg.refl _ _).alloc _)) HV.out).mono ?_
      rintro e w2 ⟨rfl, st3, q3⟩
      have hn := LoopESt.next HW.out hlt ((Chg.refl _ _).alloc _) q3
      clear q3 hown HW HV
      go_wp2_with fail
      go_roundw
      case rel => exact ⟨k + 1, by omega, by go_num, hn⟩
      case measure => simp [intOf]; omega
    · obtain ⟨st2, hw2⟩ := hw
      have hq := hw2.wrote
      rw [List.take_of_length_le (by omega)] at hq
      have HQ := Lib.hid hq
      clear hq hw2
      go_wp2_with fail
      exact bodyPost_end (results_none rfl _ _ _) rfl ⟨rfl, _, HQ.out⟩

set_option maxRecDepth 100000 in
set_option maxHeartbeats 400000 in
theorem wSt_any (W0 : World) (bw : Nat) (t : St) (o_exprs : ∀ x ∈ t.exprs, OneEx W0 bw x) (o_body : ∀ x ∈ t.body, OneSt W0 bw x) (o_els : ∀ x ∈ t.els, OneSt W0 bw x) : OneSt W0 bw t := by
  intro w st vs h hv
  obtain ⟨A2, c2, A3, c3, A4, c4, rfl, q0, q1, q2, q3, q4⟩ := St.opn hv
  have hb0 := Boxed.start h (.cells #[.int .i64 t.op, .int .i64 t.n, .slice A2 t.exprs.length c2, .slice A3 t.body.length c3, .slice A4 t.els.length c4] 101)
  have h0 := h.grow ((Chg.refl _ w).alloc (.cells #[.int .i64 t.op, .int .i64 t.n, .slice A2 t.exprs.length c2, .slice A3 t.body.length c3, .slice A4 t.els.length c4] 101))
  have HB0 := Lib.hid hb0
  have H0 := Lib.hid h0
  have O_exprs := Lib.hid o_exprs; clear o_exprs
  have O_body := Lib.hid o_body; clear o_body
  have O_els := Lib.hid o_els; clear o_els
  have Q0 := Lib.hid q0; clear q0
  have Q1 := Lib.hid q1; clear q1
  have Q2 := Lib.hid q2; clear q2
  have Q3 := Lib.hid q3; clear q3
  have Q4 := Lib.hid q4; clear q4
  clear hb0 h0 h hv
  go_enter Try.func62, Try.ntmps62
  go_wp2_with fail
  refine (num_any W0 _ bw st _ H0.out Q0.out).mono ?_
  rintro e w1 ⟨rfl, st1, r1⟩
  have hb1 := HB0.out.next r1
  have d1_0 : w1.cell? ⟨w.heap.size, 0, none⟩ = some (.int .i64 t.op) := (cell_at hb1.at_ 0).trans rfl
  have d1_1 : w1.cell? ⟨w.heap.size, 1, none⟩ = some (.int .i64 t.n) := (cell_at hb1.at_ 1).trans rfl
  have d1_2 : w1.cell? ⟨w.heap.size, 2, none⟩ = some (.slice A2 t.exprs.length c2) := (cell_at hb1.at_ 2).trans rfl
  have d1_3 : w1.cell? ⟨w.heap.size, 3, none⟩ = some (.slice A3 t.body.length c3) := (cell_at hb1.at_ 3).trans rfl
  have d1_4 : w1.cell? ⟨w.heap.size, 4, none⟩ = some (.slice A4 t.els.length c4) := (cell_at hb1.at_ 4).trans rfl
  have HB1 := Lib.hid hb1
  have h1 := r1.own
  have R1 := Lib.hid r1
  clear r1 hb1
  go_wp2_with fail
  refine (num_any W0 _ bw st1 _ h1 Q1.out).mono ?_
  rintro e w2 ⟨rfl, st2, r2⟩
  have hb2 := HB1.out.next r2
  have d2_0 : w2.cell? ⟨w.heap.size, 0, none⟩ = some (.int .i64 t.op) := (cell_at hb2.at_ 0).trans rfl
  have d2_1 : w2.cell? ⟨w.heap.size, 1, none⟩ = some (.int .i64 t.n) := (cell_at hb2.at_ 1).trans rfl
  have d2_2 : w2.cell? ⟨w.heap.size, 2, none⟩ = some (.slice A2 t.exprs.length c2) := (cell_at hb2.at_ 2).trans rfl
  have d2_3 : w2.cell? ⟨w.heap.size, 3, none⟩ = some (.slice A3 t.body.length c3) := (cell_at hb2.at_ 3).trans rfl
  have d2_4 : w2.cell? ⟨w.heap.size, 4, none⟩ = some (.slice A4 t.els.length c4) := (cell_at hb2.at_ 4).trans rfl
  have HB2 := Lib.hid hb2
  have h2 := r2.own
  have R2 := Lib.hid r2
  clear r2 hb2 d1_0 d1_1 d1_2 d1_3 d1_4 h1
  go_wp2_with fail
  refine (putsEx_any W0 _ bw st2 t.exprs _ _ h2 Q2.out O_exprs.out).mono ?_
  rintro e w3 ⟨rfl, st3, r3⟩
  have hb3 := HB2.out.next r3
  have d3_0 : w3.cell? ⟨w.heap.size, 0, none⟩ = some (.int .i64 t.op) := (cell_at hb3.at_ 0).trans rfl
  have d3_1 : w3.cell? ⟨w.heap.size, 1, none⟩ = some (.int .i64 t.n) := (cell_at hb3.at_ 1).trans rfl
  have d3_2 : w3.cell? ⟨w.heap.size, 2, none⟩ = some (.slice A2 t.exprs.length c2) := (cell_at hb3.at_ 2).trans rfl
  have d3_3 : w3.cell? ⟨w.heap.size, 3, none⟩ = some (.slice A3 t.body.length c3) := (cell_at hb3.at_ 3).trans rfl
  have d3_4 : w3.cell? ⟨w.heap.size, 4, none⟩ = some (.slice A4 t.els.length c4) := (cell_at hb3.at_ 4).trans rfl
  have HB3 := Lib.hid hb3
  have h3 := r3.own
  have R3 := Lib.hid r3
  clear r3 hb3 d2_0 d2_1 d2_2 d2_3 d2_4 h2
  go_wp2_with fail
  refine (putsSt_any W0 _ bw st3 t.body _ _ h3 Q3.out O_body.out).mono ?_
  rintro e w4 ⟨rfl, st4, r4⟩
  have hb4 := HB3.out.next r4
  have d4_0 : w4.cell? ⟨w.heap.size, 0, none⟩ = some (.int .i64 t.op) := (cell_at hb4.at_ 0).trans rfl
  have d4_1 : w4.cell? ⟨w.heap.size, 1, none⟩ = some (.int .i64 t.n) := (cell_at hb4.at_ 1).trans rfl
  have d4_2 : w4.cell? ⟨w.heap.size, 2, none⟩ = some (.slice A2 t.exprs.length c2) := (cell_at hb4.at_ 2).trans rfl
  have d4_3 : w4.cell? ⟨w.heap.size, 3, none⟩ = some (.slice A3 t.body.length c3) := (cell_at hb4.at_ 3).trans rfl
  have d4_4 : w4.cell? ⟨w.heap.size, 4, none⟩ = some (.slice A4 t.els.length c4) := (cell_at hb4.at_ 4).trans rfl
  have HB4 := Lib.hid hb4
  have h4 := r4.own
  have R4 := Lib.hid r4
  clear r4 hb4 d3_0 d3_1 d3_2 d3_3 d3_4 h3
  go_wp2_with fail
  refine (putsSt_any W0 _ bw st4 t.els _ _ h4 Q4.out O_els.out).mono ?_
  rintro e w5 ⟨rfl, st5, r5⟩
  have R5 := Lib.hid r5
  clear r5
  go_wp2_with fail
  have hfin : Wrote W0 bw w st (encSt t) w5 st5 := by
    rw [encSt_eq]
    exact Wrote.after ((Chg.refl _ _).alloc _) (R1.out.trans (R2.out.trans (R3.out.trans (R4.out.trans (R5.out)))))
  exact bodyPost_end (results_none rfl _ _ _) rfl ⟨rfl, _, hfin⟩

/-- What one Fn owes where a list of them is written. -/
def OneFn (W0 : World) (bw : Nat) (t : Fn) : Prop := ∀ (w : World) (st : WSt) (vs : List Value), WrS W0 w bw st → Vals W0 t.d vs → Calls Try.prog 29 #[.pointer (some ⟨bw, 0, none⟩), .agg vs.toArray] w (WPost W0 bw w st (encFn t))
structure LoopFn (W0 w : World) (bw : Nat) (st : WSt) (l : List Fn) (k : Nat) (wr : World) (st' : WSt) : Prop where
  wrote : Wrote W0 bw w st (le8 l.length ++ encFnL (l.take k)) wr st'
def LoopEFn (W0 w : World) (bw : Nat) (st : WSt) (l : List Fn) (k : Nat) (wr : World) : Prop := ∃ st', LoopFn W0 w bw st l k wr st'
theorem LoopEFn.next {W0 w wr wb w2 : World} {bw : Nat} {st st1 st2 : WSt} {l : List Fn} {k : Nat} (h : LoopFn W0 w bw st l k wr st1) (hk : k < l.length) (hb : Chg (fun _ => False) wr wb) (q : Wrote W0 bw wb st1 (encFn l[k]) w2 st2) : LoopEFn W0 w bw st l (k + 1) w2 := by
  refine ⟨st2, ⟨?_⟩⟩
  rw [encFnL_take l k hk, ← List.append_assoc]
  exact h.wrote.trans (q.after hb)
set_option maxRecDepth 100000 in
set_option maxHeartbeats 400000 in
theorem putsFn_any (W0 w : World) (bw : Nat) (st : WSt) (l : List Fn) (A : Option Addr) (c : Nat) (h : WrS W0 w bw st) (hl : SL W0 5 (Fn.ds l) l.length A c) (hone : ∀ t ∈ l, OneFn W0 bw t) :
    Calls Try.prog 28 #[.pointer (some ⟨bw, 0, none⟩), .slice A l.length c, .func (.func 29) #[] #[]] w (WPost W0 bw w st (le8 l.length ++ encFnL l)) := by
  have hr := hl.2.2.1
  unfold Reach at hr
  have HI := Lib.hid (show In64 (l.length : Int) from by unfold In64; omega)
  have HL := Lib.hid hl; clear hl
  have HO := Lib.hid hone; clear hone
  go_enter Try.func28, Try.ntmps28
  go_wp2_with fail
  refine (num_any W0 _ bw st _ h HI.out).mono ?_
  rintro e w1 ⟨rfl, st1, q1⟩
  have hs : LoopEFn W0 w bw st l 0 w1 := ⟨st1, ⟨by simpa [encFnL] using q1⟩⟩
  clear q1
  go_wp2_with fail
  go_loopw [14] (fun i wr => ∃ k : Nat, k ≤ l.length ∧ i = .int .i64 k ∧ LoopEFn W0 w bw st l k wr) (fun i _ => l.length - (intOf i).toNat)
  case atStart => exact ⟨0, Nat.zero_le _, rfl, hs⟩
  case round =>
    obtain ⟨k, hk, rfl, hw⟩ := hrel
    clear hs
    by_cases hlt : k < l.length
    · obtain ⟨b, o, hA, A4, c4, e0, e1, e2, e3, e4, q0, q2, q3, q4⟩ := Fn.at HL.out.2.2.2 k hlt
      subst hA
      have HV := Lib.hid (Fn.shut (w := W0) (t := l[k]) q0 q2 q3 q4)
      obtain ⟨st2, hw2⟩ := hw
      have hsub := Below.sub hw2.wrote.own.old
      have f0 := hsub _ _ e0
      have f1 := hsub _ _ e1
      have f2 := hsub _ _ e2
      have f3 := hsub _ _ e3
      have f4 := hsub _ _ e4
      have hown := hw2.wrote.own
      have HW := Lib.hid hw2
      clear hw2 hsub e0 e1 e2 e3 e4 q0 q2 q3 q4
      go_wp2_with fail
      refine (HO.out l[k] (List.getElem_mem hlt) _ st2 _ (hown.grow ((Chg.refl _ _).alloc _)) HV.out).mono ?_
      rintro e w2 ⟨rfl, st3, q3⟩
      have hn := LoopEFn.next HW.out hlt ((Chg.refl _ _).alloc _) q3
      clear q3 hown HW HV
      go_wp2_with fail
      go_roundw
      case rel => exact ⟨k + 1, by omega, by go_num, hn⟩
      case measure => simp [intOf]; omega
    · obtain ⟨st2, hw2⟩ := hw
      have hq := hw2.wrote
      rw [List.take_of_length_le (by omega)] at hq
      have HQ := Lib.hid hq
      clear hq hw2
      go_wp2_with fail
      exact bodyPost_end (results_none rfl _ _ _) rfl ⟨rfl, _, HQ.out⟩

set_option maxRecDepth 100000 in
set_option maxHeartbeats 400000 in
theorem wFn_any (W0 : World) (bw : Nat) (t : Fn) (o_body : ∀ x ∈ t.body, OneSt W0 bw x) : OneFn W0 bw t := by
  intro w st vs h hv
  obtain ⟨A4, c4, rfl, q0, q2, q3, q4⟩ := Fn.opn hv
  have hb0 := Boxed.start h (.cells #[.string t.name, .bool t.weak, .int .i64 t.params, .int .i64 t.locals, .slice A4 t.body.length c4] 67)
  have h0 := h.grow ((Chg.refl _ w).alloc (.cells #[.string t.name, .bool t.weak, .int .i64 t.params, .int .i64 t.locals, .slice A4 t.body.length c4] 67))
  have HB0 := Lib.hid hb0
  have H0 := Lib.hid h0
  have O_body := Lib.hid o_body; clear o_body
  have Q0 := Lib.hid q0; clear q0
  have Q2 := Lib.hid q2; clear q2
  have Q3 := Lib.hid q3; clear q3
  have Q4 := Lib.hid q4; clear q4
  clear hb0 h0 h hv
  go_enter Try.func29, Try.ntmps29
  go_wp2_with fail
  refine (text_any W0 _ bw st _ H0.out Q0.out).mono ?_
  rintro e w1 ⟨rfl, st1, r1⟩
  have hb1 := HB0.out.next r1
  have d1_0 : w1.cell? ⟨w.heap.size, 0, none⟩ = some (.string t.name) := (cell_at hb1.at_ 0).trans rfl
  have d1_1 : w1.cell? ⟨w.heap.size, 1, none⟩ = some (.bool t.weak) := (cell_at hb1.at_ 1).trans rfl
  have d1_2 : w1.cell? ⟨w.heap.size, 2, none⟩ = some (.int .i64 t.params) := (cell_at hb1.at_ 2).trans rfl
  have d1_3 : w1.cell? ⟨w.heap.size, 3, none⟩ = some (.int .i64 t.locals) := (cell_at hb1.at_ 3).trans rfl
  have d1_4 : w1.cell? ⟨w.heap.size, 4, none⟩ = some (.slice A4 t.body.length c4) := (cell_at hb1.at_ 4).trans rfl
  have HB1 := Lib.hid hb1
  have h1 := r1.own
  have R1 := Lib.hid r1
  clear r1 hb1
  go_wp2_with fail
  refine (truth_any W0 _ bw st1 _ h1).mono ?_
  rintro e w2 ⟨rfl, st2, r2⟩
  have hb2 := HB1.out.next r2
  have d2_0 : w2.cell? ⟨w.heap.size, 0, none⟩ = some (.string t.name) := (cell_at hb2.at_ 0).trans rfl
  have d2_1 : w2.cell? ⟨w.heap.size, 1, none⟩ = some (.bool t.weak) := (cell_at hb2.at_ 1).trans rfl
  have d2_2 : w2.cell? ⟨w.heap.size, 2, none⟩ = some (.int .i64 t.params) := (cell_at hb2.at_ 2).trans rfl
  have d2_3 : w2.cell? ⟨w.heap.size, 3, none⟩ = some (.int .i64 t.locals) := (cell_at hb2.at_ 3).trans rfl
  have d2_4 : w2.cell? ⟨w.heap.size, 4, none⟩ = some (.slice A4 t.body.length c4) := (cell_at hb2.at_ 4).trans rfl
  have HB2 := Lib.hid hb2
  have h2 := r2.own
  have R2 := Lib.hid r2
  clear r2 hb2 d1_0 d1_1 d1_2 d1_3 d1_4 h1
  go_wp2_with fail
  refine (num_any W0 _ bw st2 _ h2 Q2.out).mono ?_
  rintro e w3 ⟨rfl, st3, r3⟩
  have hb3 := HB2.out.next r3
  have d3_0 : w3.cell? ⟨w.heap.size, 0, none⟩ = some (.string t.name) := (cell_at hb3.at_ 0).trans rfl
  have d3_1 : w3.cell? ⟨w.heap.size, 1, none⟩ = some (.bool t.weak) := (cell_at hb3.at_ 1).trans rfl
  have d3_2 : w3.cell? ⟨w.heap.size, 2, none⟩ = some (.int .i64 t.params) := (cell_at hb3.at_ 2).trans rfl
  have d3_3 : w3.cell? ⟨w.heap.size, 3, none⟩ = some (.int .i64 t.locals) := (cell_at hb3.at_ 3).trans rfl
  have d3_4 : w3.cell? ⟨w.heap.size, 4, none⟩ = some (.slice A4 t.body.length c4) := (cell_at hb3.at_ 4).trans rfl
  have HB3 := Lib.hid hb3
  have h3 := r3.own
  have R3 := Lib.hid r3
  clear r3 hb3 d2_0 d2_1 d2_2 d2_3 d2_4 h2
  go_wp2_with fail
  refine (num_any W0 _ bw st3 _ h3 Q3.out).mono ?_
  rintro e w4 ⟨rfl, st4, r4⟩
  have hb4 := HB3.out.next r4
  have d4_0 : w4.cell? ⟨w.heap.size, 0, none⟩ = some (.string t.name) := (cell_at hb4.at_ 0).trans rfl
  have d4_1 : w4.cell? ⟨w.heap.size, 1, none⟩ = some (.bool t.weak) := (cell_at hb4.at_ 1).trans rfl
  have d4_2 : w4.cell? ⟨w.heap.size, 2, none⟩ = some (.int .i64 t.params) := (cell_at hb4.at_ 2).trans rfl
  have d4_3 : w4.cell? ⟨w.heap.size, 3, none⟩ = some (.int .i64 t.locals) := (cell_at hb4.at_ 3).trans rfl
  have d4_4 : w4.cell? ⟨w.heap.size, 4, none⟩ = some (.slice A4 t.body.length c4) := (cell_at hb4.at_ 4).trans rfl
  have HB4 := Lib.hid hb4
  have h4 := r4.own
  have R4 := Lib.hid r4
  clear r4 hb4 d3_0 d3_1 d3_2 d3_3 d3_4 h3
  go_wp2_with fail
  refine (putsSt_any W0 _ bw st4 t.body _ _ h4 Q4.out O_body.out).mono ?_
  rintro e w5 ⟨rfl, st5, r5⟩
  have R5 := Lib.hid r5
  clear r5
  go_wp2_with fail
  have hfin : Wrote W0 bw w st (encFn t) w5 st5 := by
    rw [encFn_eq]
    exact Wrote.after ((Chg.refl _ _).alloc _) (R1.out.trans (R2.out.trans (R3.out.trans (R4.out.trans (R5.out)))))
  exact bodyPost_end (results_none rfl _ _ _) rfl ⟨rfl, _, hfin⟩

end Go.Proofs.Ytghnaaahkbnhlaa
