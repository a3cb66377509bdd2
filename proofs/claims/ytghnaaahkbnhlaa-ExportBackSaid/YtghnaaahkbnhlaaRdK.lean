/-
  The walk of Decode: it answers what decodeP reads. The condition: the bytes read.
-/
import Derived.Test.YtghnaaahkbnhlaaRdJ
import Derived.Lib.SlBytesConst
import Derived.Test.YtghnaaahkbnhlaaHeld
import Derived.Test.YtghnaaahkbnhlaaDec
namespace Go.Proofs.Ytghnaaahkbnhlaa
open Go.RowKit Go.Lib
set_option linter.unusedVariables false
set_option linter.unusedSimpArgs false

theorem dp101 : (101 - ((101 : Nat) : Int)) = 0 := by omega
/-- What Decode leaves. -/
def DecPost (w : World) (l : List UInt8) (e : Ending) (w' : World) : Prop := match decodeP l with
  | some u => ∃ vs, e = .returned (.tuple #[.agg vs.toArray, .int .i64 0]) ∧ Vals (NewW w.heap.size none w') u.d vs ∧ Below w.heap.size w w' ∧ ∃ v2, vs[2]? = some v2 ∧ ∃ e base segs, w.heap.size ≤ base ∧ w'.ownsRow base e 10 v2 u.decls.length segs
  | none => e = .returned (.tuple #[.agg #[.string ⟨#[]⟩, .slice none 0 0, .slice none 0 0, .slice none 0 0], .int .i64 4]) ∧ Below w.heap.size w w'

set_option maxRecDepth 100000 in
set_option maxHeartbeats 800000 in
theorem decode_short (w : World) (l : List UInt8) (A : Option Addr) (c : Nat) (hc : l.length ≤ c) (hn : l.length ≤ Reach) (hs : l.length < 12 ∨ 262144 < l.length) :
    Calls Try.prog 19 #[.slice A l.length c] w (DecPost w l) := by
  unfold Reach at hn
  have HP := Lib.hid (show decodeP l = none by unfold decodeP; rw [if_pos hs])
  rcases hs with hs | hs
  · have hs' : (l.length : Int) < 12 := by omega
    go_enter_defers Try.func19, Try.ntmps19
    go_wp2_with fail
    refine ⟨.tuple #[.agg #[.string ⟨#[]⟩, .slice none 0 0, .slice none 0 0, .slice none 0 0], .int .i64 4], by simp [results, Try.results19, go_sem], ?_⟩
    unfold DecPost
    rw [HP.out]
    exact ⟨rfl, ((Below.refl _ _).alloc (Nat.le_refl _) _).alloc (by simp) _⟩
  · have hs' : ¬ (l.length : Int) < 12 := by omega
    have hs2 : 262144 < (l.length : Int) := by omega
    go_enter_defers Try.func19, Try.ntmps19
    go_wp2_with fail
    refine ⟨.tuple #[.agg #[.string ⟨#[]⟩, .slice none 0 0, .slice none 0 0, .slice none 0 0], .int .i64 4], by simp [results, Try.results19, go_sem], ?_⟩
    unfold DecPost
    rw [HP.out]
    exact ⟨rfl, ((Below.refl _ _).alloc (Nat.le_refl _) _).alloc (by simp) _⟩

/-- Ahead of the reader: the results' variables and the mark's bytes. -/
def DW (w : World) : World := ((w.alloc (.cells #[.string ⟨#[]⟩, .slice none 0 0, .slice none 0 0, .slice none 0 0] 30)).alloc (.cells #[.int .i64 0] 32)).alloc (.cells #[.int .u8 77, .int .u8 85, .int .u8 49, .int .u8 10] 5 (4, 5))
structure DWS (w wd : World) : Prop where
  chg : Chg (fun _ => False) w wd
  size : wd.heap.size = w.heap.size + 3
  ba : wd.heap[w.heap.size]? = some (.cells #[.string ⟨#[]⟩, .slice none 0 0, .slice none 0 0, .slice none 0 0] 30 (0, 0))
  bb : wd.heap[w.heap.size + 1]? = some (.cells #[.int .i64 0] 32 (0, 0))
  bm : wd.heap[w.heap.size + 1 + 1]? = some (.cells #[.int .u8 77, .int .u8 85, .int .u8 49, .int .u8 10] 5 (4, 5))
theorem dws (w : World) : DWS w (DW w) := by
  refine ⟨(((Chg.refl _ _).alloc _).alloc _).alloc _, by simp [DW], ?_, ?_, ?_⟩
  · exact alloc_old (alloc_old (alloc_at w _) _) _
  · have := alloc_at (w.alloc (.cells #[.string ⟨#[]⟩, .slice none 0 0, .slice none 0 0, .slice none 0 0] 30)) (.cells #[.int .i64 0] 32)
    refine alloc_old ?_ _
    simpa using this
  · have := alloc_at ((w.alloc (.cells #[.string ⟨#[]⟩, .slice none 0 0, .slice none 0 0, .slice none 0 0] 30)).alloc (.cells #[.int .i64 0] 32)) (.cells #[.int .u8 77, .int .u8 85, .int .u8 49, .int .u8 10] 5 (4, 5))
    simpa [DW] using this
theorem DWS.mark {w wd : World} (h : DWS w wd) : RdB wd (some ⟨w.heap.size + 1 + 1, 0, none⟩) [77, 85, 49, 10] := fun k hk => by
  refine ⟨_, _, rfl, ?_⟩
  rw [cell_at h.bm]
  match k, hk with
  | 0, _ => rfl
  | 1, _ => rfl
  | 2, _ => rfl
  | 3, _ => rfl
  | k + 4, hk => exact absurd hk (by simp)
/-- The result's cells behind a failure. -/
theorem Failed.at {w w' : World} {a b : Nat} {v0 v1 v2 v3 v4 : Value} (h : Failed w w' a b) (ha : w.heap[a]? = some (.cells #[v0, v1, v2, v3] 30 (0, 0))) (hb : w.heap[b]? = some (.cells #[v4] 32 (0, 0))) (hab : a ≠ b) :
    w'.heap[a]? = some (.cells #[.string ⟨#[]⟩, .slice none 0 0, .slice none 0 0, .slice none 0 0] 30 (0, 0)) ∧ w'.heap[b]? = some (.cells #[.int .i64 4] 32 (0, 0)) ∧ Chg (fun k => k = a ∨ k = b) w w' := by
  unfold Failed at h
  subst h
  have e0 := set_at ha 0 (.string ⟨#[]⟩)
  have e1 := set_at e0 1 (.slice none 0 0)
  have e2 := set_at e1 2 (.slice none 0 0)
  have e3 := set_at e2 3 (.slice none 0 0)
  have e4 := set_old e3 (p := ⟨b, 0, none⟩) hab (.int .i64 4)
  have g : ((((w.setCell ⟨a, 0, none⟩ (.string ⟨#[]⟩)).setCell ⟨a, 1, none⟩ (.slice none 0 0)).setCell ⟨a, 2, none⟩ (.slice none 0 0)).setCell ⟨a, 3, none⟩ (.slice none 0 0)).heap[b]? = some (.cells #[v4] 32 (0, 0)) :=
    set_old (set_old (set_old (set_old hb (p := ⟨a, 0, none⟩) (Ne.symm hab) _) (p := ⟨a, 1, none⟩) (Ne.symm hab) _) (p := ⟨a, 2, none⟩) (Ne.symm hab) _) (p := ⟨a, 3, none⟩) (Ne.symm hab) _
  refine ⟨e4, set_at g 0 (.int .i64 4), ?_⟩
  exact (((((Chg.refl _ w).setCell (p := ⟨a, 0, none⟩) (fun _ => .inl rfl) _).setCell (p := ⟨a, 1, none⟩) (fun _ => .inl rfl) _).setCell (p := ⟨a, 2, none⟩) (fun _ => .inl rfl) _).setCell (p := ⟨a, 3, none⟩) (fun _ => .inl rfl) _).setCell (p := ⟨b, 0, none⟩) (fun _ => .inr rfl) _

set_option maxRecDepth 100000 in
set_option maxHeartbeats 800000 in
theorem decode_nomark (w : World) (l : List UInt8) (b o c n m k : Nat) (hk : l.length = n) (hm8 : n = m + 8) (hm4 : m = k + 4) (hr : RdB w (some ⟨b, o, none⟩) l) (hc : n ≤ c) (h2 : n ≤ 262144) (hm : ¬ l.take 4 = [77, 85, 49, 10]) :
    Calls Try.prog 19 #[.slice (some ⟨b, o, none⟩) n c] w (DecPost w l) := by
  have i1 : ¬ (n : Int) < 12 := by omega
  have i2 : ¬ 262144 < (n : Int) := by omega
  have i3 : (m : Int) ≤ n := by omega
  have i4 : (4 : Int) ≤ m := by omega
  have e1 : IntKind.i64.wrap ((n : Int) - 8) = m := by rw [Go.IntKind.wrap_i64]; omega
  have e2 : n - m = 8 := by omega
  have e3 : m - 4 = k := by omega
  have HM := Lib.hid (bprefix_any (DW w) b o c (w.heap.size + 1 + 1) 4 l [77, 85, 49, 10] (hr.sub (Below.sub (dws w).chg.below)) (dws w).mark (by omega) rfl (by omega) (by unfold Reach; omega))
  rw [hk] at HM
  have HR := Lib.hid hr; clear hr
  have HL := Lib.hid hk; have HN8 := Lib.hid hm8; have HN4 := Lib.hid hm4; clear hk hm8 hm4
  have HD := Lib.hid (dws w)
  have hmf : ∀ (fn : Go.Fn) (first cap : Array Value) (w : World), (Instr.makeFunc fn first cap).run Try.prog w = .ok (.func fn first cap) w := fun _ _ _ _ => rfl
  have kc : (convert 22 22 (.slice (some ⟨w.heap.size + 1 + 1, 0, none⟩) 4 4)).run Try.prog (((w.alloc (.cells #[.string ⟨#[]⟩, .slice none 0 0, .slice none 0 0, .slice none 0 0] 30)).alloc (.cells #[.int .i64 0] 32)).alloc (.cells #[.int .u8 77, .int .u8 85, .int .u8 49, .int .u8 10] 5)) = .ok (.slice (some ⟨w.heap.size + 1 + 1, 0, none⟩) 4 4) (DW w) := by
    have := Lib.run_convert_bytes_const (P := Try.prog) ((w.alloc (.cells #[.string ⟨#[]⟩, .slice none 0 0, .slice none 0 0, .slice none 0 0] 30)).alloc (.cells #[.int .i64 0] 32)) 22 5 #[.int .u8 77, .int .u8 85, .int .u8 49, .int .u8 10] 4 4 Try.underlying22 Try.underlying5
    simpa [DW] using this
  generalize DW w = wd at HM HD kc
  have hmb : (l.take 4 == [77, 85, 49, 10]) = false := by simp [hm]
  have HP := Lib.hid (show decodeP l = none by unfold decodeP; rw [if_neg (by have := HL.out; omega), if_pos hm])
  clear hm
  generalize (l.take 4 == [77, 85, 49, 10]) = q at HM hmb
  subst hmb
  have f0 := free_at HD.out.ba 0; have f1 := free_at HD.out.ba 1; have f2 := free_at HD.out.ba 2; have f3 := free_at HD.out.ba 3; have f4 := free_at HD.out.bb 0
  have c0 : wd.cell? ⟨w.heap.size, 0, none⟩ = some (.string ⟨#[]⟩) := (cell_at HD.out.ba 0).trans rfl
  have c1 : wd.cell? ⟨w.heap.size, 1, none⟩ = some (.slice none 0 0) := (cell_at HD.out.ba 1).trans rfl
  have c2 : wd.cell? ⟨w.heap.size, 2, none⟩ = some (.slice none 0 0) := (cell_at HD.out.ba 2).trans rfl
  have c3 : wd.cell? ⟨w.heap.size, 3, none⟩ = some (.slice none 0 0) := (cell_at HD.out.ba 3).trans rfl
  have c4 : wd.cell? ⟨w.heap.size + 1, 0, none⟩ = some (.int .i64 0) := (cell_at HD.out.bb 0).trans rfl
  go_enter_defers Try.func19, Try.ntmps19
  go_wp2_with fail
  refine HM.out.mono ?_
  rintro e w' ⟨rfl, rfl⟩
  go_wp2_with fail
  obtain ⟨q1, q2, q3⟩ := Failed.at (w := wd) (a := w.heap.size) (b := w.heap.size + 1) rfl HD.out.ba HD.out.bb (by omega)
  have r0 := (cell_at q1 0).trans rfl
  have r1 := (cell_at q1 1).trans rfl
  have r2 := (cell_at q1 2).trans rfl
  have r3 := (cell_at q1 3).trans rfl
  have r4 := (cell_at q2 0).trans rfl
  refine ⟨.tuple #[.agg #[.string ⟨#[]⟩, .slice none 0 0, .slice none 0 0, .slice none 0 0], .int .i64 4], by simp [results, Try.results19, go_sem, r0, r1, r2, r3, r4], ?_⟩
  unfold DecPost
  rw [HP.out]
  exact ⟨rfl, Below.chg HD.out.chg.below q3 (by have := HD.out.size; omega) (fun i q => by omega)⟩

def dP (r : Option (Un × List UInt8)) : Option Un := match r with
  | some (u, []) => some u
  | _ => none
/-- While the unit is read: the reader, and the results' variables. -/
structure DRd (w wx : World) (br : Nat) (cs : List Value) (l : List UInt8) : Prop where
  rd : RdS w wx br l 0
  hi : w.heap.size + 1 < br
  ba : wx.heap[w.heap.size]? = some (.cells cs.toArray 30 (0, 0))
  bb : wx.heap[w.heap.size + 1]? = some (.cells #[.int .i64 0] 32 (0, 0))
theorem DRd.call {w wx w2 : World} {br : Nat} {cs : List Value} {l l' : List UInt8} (h : DRd w wx br cs l) (hs : RdS w w2 br l' 0) (hc : Chg (fun k => k = br) wx w2) : DRd w w2 br cs l' :=
  ⟨hs, h.hi, hc.heap h.ba (by have := h.hi; omega), hc.heap h.bb (by have := h.hi; omega)⟩
theorem DRd.put {w wx : World} {br : Nat} {cs : List Value} {l : List UInt8} (h : DRd w wx br cs l) (i : Nat) (v : Value) : DRd w (wx.setCell ⟨w.heap.size, i, none⟩ v) br (cs.set i v) l := by
  have hset : Chg (fun k => k = w.heap.size) wx (wx.setCell ⟨w.heap.size, i, none⟩ v) := (Chg.refl (fun k => k = w.heap.size) wx).setCell (p := ⟨w.heap.size, i, none⟩) (fun _ => rfl) _
  refine ⟨h.rd.keep hset (by have := h.hi; omega) (fun k q => by omega), h.hi, ?_, hset.heap h.bb (by omega)⟩
  have e := set_at h.ba i v
  rwa [List.setIfInBounds_toArray] at e
/-- What is left where the reading is given up. -/
structure DLost (w wx : World) (cs : List Value) : Prop where
  below : Below w.heap.size w wx
  four : ∃ v0 v1 v2 v3, cs = [v0, v1, v2, v3]
  ba : wx.heap[w.heap.size]? = some (.cells cs.toArray 30 (0, 0))
  bb : wx.heap[w.heap.size + 1]? = some (.cells #[.int .i64 0] 32 (0, 0))
theorem DRd.lost {w wx w2 : World} {br : Nat} {v0 v1 v2 v3 : Value} {l : List UInt8} (h : DRd w wx br [v0, v1, v2, v3] l) (hc : Chg (fun k => k = br) wx w2) : DLost w w2 [v0, v1, v2, v3] :=
  ⟨Below.chg h.rd.old hc h.rd.old.size (fun i q => by have := h.hi; omega), ⟨_, _, _, _, rfl⟩, hc.heap h.ba (by have := h.hi; omega), hc.heap h.bb (by have := h.hi; omega)⟩
theorem res_fail {w wx : World} {l : List UInt8} (tmps : Array Value) (h2 : tmps.getD 2 undef = .pointer (some ⟨w.heap.size, 0, none⟩)) (h3 : tmps.getD 3 undef = .pointer (some ⟨w.heap.size + 1, 0, none⟩)) {cs : List Value} (h : DLost w wx cs) (hp : decodeP l = none) (w3 : World) (hF : Failed wx w3 w.heap.size (w.heap.size + 1)) :
    ∃ v, (results Try.f19 tmps).run Try.prog w3 = .ok v w3 ∧ DecPost w l (.returned v) w3 := by
  obtain ⟨v0, v1, v2, v3, rfl⟩ := h.four
  obtain ⟨q1, q2, q3⟩ := Failed.at hF h.ba h.bb (by omega)
  have r0 := (cell_at q1 0).trans rfl
  have r1 := (cell_at q1 1).trans rfl
  have r2 := (cell_at q1 2).trans rfl
  have r3 := (cell_at q1 3).trans rfl
  have r4 := (cell_at q2 0).trans rfl
  refine ⟨.tuple #[.agg #[.string ⟨#[]⟩, .slice none 0 0, .slice none 0 0, .slice none 0 0], .int .i64 4], ?_, ?_⟩
  · simp only [Array.getD_eq_getD_getElem?] at h2 h3
    simp [results, Try.results19, go_sem, h2, h3, r0, r1, r2, r3, r4]
  · unfold DecPost
    rw [hp]
    exact ⟨rfl, Below.chg h.below q3 h.below.size (fun i q => by omega)⟩
theorem door_panic {w wx : World} {l : List UInt8} (tmps : Array Value) (h2 : tmps.getD 2 undef = .pointer (some ⟨w.heap.size, 0, none⟩)) (h3 : tmps.getD 3 undef = .pointer (some ⟨w.heap.size + 1, 0, none⟩)) (u : Value) {cs : List Value} (h : DLost w wx cs) (hp : decodeP l = none) :
    bodyPostD Try.prog Try.f19 (DecPost w l) (Exit.panic [{ v := .iface 146 u, recovered := false }]) { tmps := tmps, defers := [{ target := Target.fn (Fn.func 40) #[.pointer (some ⟨w.heap.size, 0, none⟩), .pointer (some ⟨w.heap.size + 1, 0, none⟩)], args := #[] }] } wx := by
  have h' := h
  obtain ⟨v0, v1, v2, v3, rfl⟩ := h'.four
  refine leaves_cons (f := 40) (args := #[.pointer (some ⟨w.heap.size, 0, none⟩), .pointer (some ⟨w.heap.size + 1, 0, none⟩)]) (by simp) (by simp [go_sem]) ?_
  refine (caught w.heap.size (w.heap.size + 1) v0 v1 v2 v3 (.int .i64 0) _ u wx h.ba h.bb (by omega)).mono ?_
  rintro e u' w3 ⟨rfl, rfl, hF⟩
  exact res_fail tmps h2 h3 h hp w3 hF
theorem door_fail {w wx w3 : World} {l : List UInt8} (tmps : Array Value) (h2 : tmps.getD 2 undef = .pointer (some ⟨w.heap.size, 0, none⟩)) (h3 : tmps.getD 3 undef = .pointer (some ⟨w.heap.size + 1, 0, none⟩)) {cs : List Value} (h : DLost w wx cs) (hp : decodeP l = none) (hF : Failed wx w3 w.heap.size (w.heap.size + 1)) :
    bodyPostD Try.prog Try.f19 (DecPost w l) Exit.ret { tmps := tmps, defers := [{ target := Target.fn (Fn.func 40) #[.pointer (some ⟨w.heap.size, 0, none⟩), .pointer (some ⟨w.heap.size + 1, 0, none⟩)], args := #[] }] } w3 := by
  refine leaves_cons (f := 40) (args := #[.pointer (some ⟨w.heap.size, 0, none⟩), .pointer (some ⟨w.heap.size + 1, 0, none⟩)]) (by simp) (by simp [go_sem]) ?_
  refine (idle w.heap.size (w.heap.size + 1) w3).mono ?_
  rintro e u' w4 ⟨rfl, rfl, rfl⟩
  exact res_fail tmps h2 h3 h hp w4 hF
theorem door_done {w wx : World} {l : List UInt8} (tmps : Array Value) (h2 : tmps.getD 2 undef = .pointer (some ⟨w.heap.size, 0, none⟩)) (h3 : tmps.getD 3 undef = .pointer (some ⟨w.heap.size + 1, 0, none⟩)) {v0 v1 v2 v3 : Value} {u : Un} (ba : wx.heap[w.heap.size]? = some (.cells #[v0, v1, v2, v3] 30 (0, 0))) (bb : wx.heap[w.heap.size + 1]? = some (.cells #[.int .i64 0] 32 (0, 0))) (hB : Below w.heap.size w wx) (hv : Vals (NewW w.heap.size none wx) u.d [v0, v1, v2, v3]) (hp : decodeP l = some u) (ho : ∃ e base segs, w.heap.size ≤ base ∧ wx.ownsRow base e 10 v2 u.decls.length segs) :
    bodyPostD Try.prog Try.f19 (DecPost w l) Exit.ret { tmps := tmps, defers := [{ target := Target.fn (Fn.func 40) #[.pointer (some ⟨w.heap.size, 0, none⟩), .pointer (some ⟨w.heap.size + 1, 0, none⟩)], args := #[] }] } wx := by
  refine leaves_cons (f := 40) (args := #[.pointer (some ⟨w.heap.size, 0, none⟩), .pointer (some ⟨w.heap.size + 1, 0, none⟩)]) (by simp) (by simp [go_sem]) ?_
  refine (idle w.heap.size (w.heap.size + 1) wx).mono ?_
  rintro e u' w4 ⟨rfl, rfl, rfl⟩
  have r0 := (cell_at ba 0).trans rfl
  have r1 := (cell_at ba 1).trans rfl
  have r2 := (cell_at ba 2).trans rfl
  have r3 := (cell_at ba 3).trans rfl
  have r4 := (cell_at bb 0).trans rfl
  refine ⟨.tuple #[.agg #[v0, v1, v2, v3], .int .i64 0], ?_, ?_⟩
  · simp only [Array.getD_eq_getD_getElem?] at h2 h3
    simp [results, Try.results19, go_sem, h2, h3, r0, r1, r2, r3, r4]
  · unfold DecPost
    rw [hp]
    exact ⟨_, rfl, hv, hB, v2, rfl, ho⟩
theorem enters44 : Enters 44 := fun args w => by simp [go_sem]
theorem enters46 : Enters 46 := fun args w => by simp [go_sem]
theorem enters48 : Enters 48 := fun args w => by simp [go_sem]
theorem enters73 : Enters 73 := fun args w => by simp [go_sem]

/-- The reader over the sum's bytes stands. -/
theorem rdS_start {w wd : World} (h : DWS w wd) {l : List UInt8} {b o c : Nat} (hr : RdB w (some ⟨b, o, none⟩) l) (hl : l.length = 8) (hc : 8 ≤ c) :
    RdS w (wd.alloc (.cells #[.slice (some ⟨b, o, none⟩) 8 c, .int .i64 0] 79)) wd.heap.size l 0 :=
  ⟨Chg.below (h.chg.alloc _), h.chg.size, ⟨b, o, c, by rw [hl]; exact alloc_at wd _, by omega, hr⟩, by omega⟩

set_option maxRecDepth 100000 in
set_option maxHeartbeats 6400000 in
theorem decode_walk (w : World) (l : List UInt8) (b o c n m k : Nat) (hk : l.length = n) (hm8 : n = m + 8) (hm4 : m = k + 4) (hr : RdB w (some ⟨b, o, none⟩) l) (hc : n ≤ c) (h2 : n ≤ 262144) :
    Calls Try.prog 19 #[.slice (some ⟨b, o, none⟩) n c] w (DecPost w l) := by
  by_cases hm : l.take 4 = [77, 85, 49, 10]
  case neg => exact decode_nomark w l b o c n m k hk hm8 hm4 hr hc h2 hm
  have i1 : ¬ (n : Int) < 12 := by omega
  have i2 : ¬ 262144 < (n : Int) := by omega
  have i3 : (m : Int) ≤ n := by omega
  have i4 : (4 : Int) ≤ m := by omega
  have i5 : m ≤ c := by omega
  have e1 : IntKind.i64.wrap ((n : Int) - 8) = m := by rw [Go.IntKind.wrap_i64]; omega
  have e2 : n - m = 8 := by omega
  have e3 : m - 4 = k := by omega
  have HM := Lib.hid (bprefix_any (DW w) b o c (w.heap.size + 1 + 1) 4 l [77, 85, 49, 10] (hr.sub (Below.sub (dws w).chg.below)) (dws w).mark (by omega) rfl (by omega) (by unfold Reach; omega))
  rw [hk] at HM
  have HR := Lib.hid hr; clear hr
  have HL := Lib.hid hk; have HN8 := Lib.hid hm8; have HN4 := Lib.hid hm4; clear hk hm8 hm4
  have HD := Lib.hid (dws w)
  have hmf : ∀ (fn : Go.Fn) (first cap : Array Value) (w : World), (Instr.makeFunc fn first cap).run Try.prog w = .ok (.func fn first cap) w := fun _ _ _ _ => rfl
  have kc : (convert 22 22 (.slice (some ⟨w.heap.size + 1 + 1, 0, none⟩) 4 4)).run Try.prog (((w.alloc (.cells #[.string ⟨#[]⟩, .slice none 0 0, .slice none 0 0, .slice none 0 0] 30)).alloc (.cells #[.int .i64 0] 32)).alloc (.cells #[.int .u8 77, .int .u8 85, .int .u8 49, .int .u8 10] 5)) = .ok (.slice (some ⟨w.heap.size + 1 + 1, 0, none⟩) 4 4) (DW w) := by
    have := Lib.run_convert_bytes_const (P := Try.prog) ((w.alloc (.cells #[.string ⟨#[]⟩, .slice none 0 0, .slice none 0 0, .slice none 0 0] 30)).alloc (.cells #[.int .i64 0] 32)) 22 5 #[.int .u8 77, .int .u8 85, .int .u8 49, .int .u8 10] 4 4 Try.underlying22 Try.underlying5
    simpa [DW] using this
  generalize DW w = wd at HM HD kc
  have hmb : (l.take 4 == [77, 85, 49, 10]) = true := by simp [hm]
  have HMK := Lib.hid hm; clear hm
  generalize (l.take 4 == [77, 85, 49, 10]) = q at HM hmb
  subst hmb
  -- what the sum's bytes say; the sum
  have hdl : (l.drop m).length = 8 := by rw [List.length_drop]; have := HL.out; have := HN8.out; omega
  have HS8 := Lib.hid (rdS_start HD.out (l := l.drop m) (b := b) (o := o + m) (c := c - m) (HR.out.drop m) hdl (by have := HN8.out; omega))
  have HU := Lib.hid (show numP (l.drop m) = some (wrap64 (unle (l.drop m)), []) by
    unfold numP
    rw [show takeP 8 (l.drop m) = some (l.drop m, []) from by
      have := takeP_app (l.drop m) [] 8 hdl
      rwa [List.append_nil] at this])
  have HP := Lib.hid (show decodeP l = if wrap64 (unle (l.drop m)) ≠ fnv (l.take m) then none else dP (bodyP ((l.take m).drop 4)) by
    have e8 : l.length - 8 = m := by have := HL.out; have := HN8.out; omega
    unfold decodeP
    rw [if_neg (by have := HL.out; omega), if_neg (by simpa using HMK.out), e8]
    rfl)
  have hml : (l.take m).length = m := by rw [List.length_take]; have := HL.out; have := HN8.out; omega
  have HSU := Lib.hid (fun (wx : World) (hs : Below w.heap.size w wx) => sum_any wx (l.take m) (some ⟨b, o, none⟩) c (by rw [hml]; unfold Reach; omega) ((HR.out.take m).sub (Below.sub hs)))
  rw [hml] at HSU
  have HML := Lib.hid hml
  clear hdl hml
  generalize wrap64 (unle (l.drop m)) = x at HU HP
  generalize fnv (l.take m) = y at HSU HP
  go_enter_defers Try.func19, Try.ntmps19
  go_wp2_with fail
  refine HM.out.mono ?_
  rintro e w' ⟨rfl, rfl⟩
  go_wp2_with fail
  refine wp_region_ordN (fun _ => True) [(0, false), (2, false), (3, false), (4, false), (1, true), (5, true), (6, false)] (by kernel_rfl) (by kernel_rfl) trivial ?_
  apply wpOrd_get rfl
  · go_simp
  · intro wS hS
    go_simp
    try rfl
  intro K hK
  go_simp
  refine hK _ ?_
  clear hK K
  apply wpOrd_get rfl
  · go_simp
  · intro wS hS
    go_simp
    try rfl
  intro K hK
  go_simp
  refine hK _ ?_
  clear hK K
  apply wpOrd_get rfl
  · go_simp
  · intro wS hS
    go_simp
    try rfl
  intro K hK
  go_simp
  refine hK _ ?_
  clear hK K
  apply wpOrd_get rfl
  · go_simp
  · intro wS hS
    go_simp
    try rfl
  intro K hK
  go_simp
  refine hK _ ?_
  clear hK K
  refine wpOrd_loud rfl (fun K hK => ?_)
  go_wp2_with fail
  refine (rdnum_any w _ wd.heap.size (l.drop m) 0 (HS8.out.keep ((Chg.refl (fun _ => False) _).drew) id (fun _ q => q.elim))).mono ?_
  intro e w4 he
  rw [HU.out] at he
  obtain ⟨v, rfl, hv, hs, hcg⟩ := he
  obtain rfl := (show v = .int .i64 x from hv)
  have HS4 := Lib.hid hs
  have HC4 := Lib.hid (((Chg.refl (fun k => k = wd.heap.size) _).drew).trans hcg (fun _ _ q => q))
  have HBA := Lib.hid (HC4.out.heap (alloc_old HD.out.ba _) (by have := HD.out.size; omega))
  have HBB := Lib.hid (HC4.out.heap (alloc_old HD.out.bb _) (by have := HD.out.size; omega))
  clear hv hs hcg
  go_wp2_with fail
  refine hK _ _ trivial ?_
  clear hK K
  refine wpOrd_loud rfl (fun K hK => ?_)
  go_wp2_with fail
  refine (HSU.out _ HS4.out.old).mono ?_
  rintro e w' ⟨rfl, rfl⟩
  go_wp2_with fail
  refine hK _ _ trivial ?_
  clear hK K
  apply wpOrd_get rfl
  · go_simp
  · intro wS hS
    go_simp
    try rfl
  intro K hK
  go_simp
  refine hK _ ?_
  clear hK K
  refine wpOrd_nilN ?_
  by_cases hxy : x = y
  case neg =>
    have nx : (x != y) = true := by simp [hxy]
    have HPP := Lib.hid (show decodeP l = none by rw [HP.out, if_pos hxy])
    clear hxy
    have f0 := free_at HBA.out 0; have f1 := free_at HBA.out 1; have f2 := free_at HBA.out 2; have f3 := free_at HBA.out 3; have f4 := free_at HBB.out 0
    have c0 : w4.cell? ⟨w.heap.size, 0, none⟩ = some (.string ⟨#[]⟩) := (cell_at HBA.out 0).trans rfl
    have c1 : w4.cell? ⟨w.heap.size, 1, none⟩ = some (.slice none 0 0) := (cell_at HBA.out 1).trans rfl
    have c2 : w4.cell? ⟨w.heap.size, 2, none⟩ = some (.slice none 0 0) := (cell_at HBA.out 2).trans rfl
    have c3 : w4.cell? ⟨w.heap.size, 3, none⟩ = some (.slice none 0 0) := (cell_at HBA.out 3).trans rfl
    have c4 : w4.cell? ⟨w.heap.size + 1, 0, none⟩ = some (.int .i64 0) := (cell_at HBB.out 0).trans rfl
    go_wp2_with fail
    exact door_fail _ rfl rfl (DLost.mk HS4.out.old ⟨_, _, _, _, rfl⟩ HBA.out HBB.out) HPP.out rfl
  case pos =>
    subst hxy
    have nx : (x != x) = false := by simp
    obtain ⟨bq, oq, cq, hbq, _, _⟩ := HS4.out.at_
    have cb : w4.cell? ⟨wd.heap.size, 0, none⟩ = some (.slice (some ⟨bq, oq, none⟩) ([] : List UInt8).length cq) := (cell_at hbq 0).trans rfl
    have fb := free_at hbq 0
    clear hbq
    have hl0 : ((l.take m).drop 4).length = k := by rw [List.length_drop, HML.out]; omega
    have hr0 := (HR.out.take m).drop 4
    have HP := Lib.hid (show decodeP l = dP (bodyP ((l.take m).drop 4)) by rw [HP.out, if_neg (by simp)])
    generalize (l.take m).drop 4 = l0 at hl0 hr0 HP
    have hst := HS4.out.step (b := b) (o := o + 4) (c := c - 4) (l' := l0) (by omega) (by omega) hr0
    rw [hl0] at hst
    have HT : Hid (DRd w (w4.setCell ⟨wd.heap.size, 0, none⟩ (.slice (some ⟨b, o + 4, none⟩) k (c - 4))) wd.heap.size [.string ⟨#[]⟩, .slice none 0 0, .slice none 0 0, .slice none 0 0] l0) := Lib.hid ⟨hst.1, by have := HD.out.size; omega, hst.2.heap HBA.out (by have := HD.out.size; omega), hst.2.heap HBB.out (by have := HD.out.size; omega)⟩
    have HTY := Lib.hid (show RdOne w wd.heap.size 0 (typP 101) Ty.d 71 by have := rdTy_one w wd.heap.size 101 (Nat.le_refl _); rwa [dp101] at this)
    have HST := Lib.hid (show RdOne w wd.heap.size 0 (statP 101) St.d 76 by have := rdSt_one w wd.heap.size 101 (Nat.le_refl _); rwa [dp101] at this)
    have HP := Lib.hid (show decodeP l = dP (bindP (textP l0) fun x0 l1 => bindP (takesP importP l1) fun x1 l2 => bindP (takesP declP l2) fun x2 l3 => bindP (takesP functionP l3) fun x3 l4 => some ((⟨x0, x1, x2, x3⟩ : Un), l4)) from HP.out)
    clear hl0 hr0 hst HBA HBB
    go_wp2_with fail
    clear cb fb
    refine (rdtext_any w _ wd.heap.size l0 0 HT.out.rd).mono ?_
    intro e w10 he
    rcases he.split with ⟨x0, l1, v0, hp, rfl, hv, hs, hc⟩ | ⟨hp, u, rfl, hc⟩
    case inr =>
      have HPP := Lib.hid (show decodeP l = none by rw [HP.out, hp]; rfl)
      have HT := Lib.hid (HT.out.lost hc)
      clear hp hc he
      go_wp2_with fail
      exact door_panic _ rfl rfl u HT.out HPP.out
    have HP := Lib.hid (show decodeP l = dP (bindP (takesP importP l1) fun x1 l2 => bindP (takesP declP l2) fun x2 l3 => bindP (takesP functionP l3) fun x3 l4 => some ((⟨x0, x1, x2, x3⟩ : Un), l4)) by rw [HP.out, hp]; rfl)
    have HX0 := Lib.hid (show x0.size ≤ Reach by have h1 := textP_size hp; have h2 := HT.out.rd.len; unfold Reach; omega)
    obtain rfl := (show v0 = .string x0 from hv)
    have hset : Chg (fun k => k = w.heap.size) w10 (w10.setCell ⟨w.heap.size, 0, none⟩ (.string x0)) := (Chg.refl (fun k => k = w.heap.size) w10).setCell (p := ⟨w.heap.size, 0, none⟩) (fun _ => rfl) _
    have HT := Lib.hid (HT.out.call hs hc)
    have f : w10.frozen? ⟨w.heap.size, 0, none⟩ = false := free_at HT.out.ba 0
    have c_ : w10.cell? ⟨w.heap.size, 0, none⟩ = some (.string ⟨#[]⟩) := (cell_at HT.out.ba 0).trans rfl
    have HT : Hid (DRd w (w10.setCell ⟨w.heap.size, 0, none⟩ (.string x0)) wd.heap.size [.string x0, .slice none 0 0, .slice none 0 0, .slice none 0 0] l1) := Lib.hid (HT.out.put 0 (.string x0))
    clear hset hp hs hc he hv
    go_wp2_with fail
    clear f c_
    refine (takesImp_any w _ wd.heap.size 0 _ _ enters44 (imported_any w wd.heap.size 0) l1 HT.out.rd).mono ?_
    intro e w11 he
    rcases he.split with ⟨x1, l2, v1, hp, rfl, hv, hs, hc⟩ | ⟨hp, u, rfl, hc⟩
    case inr =>
      have HPP := Lib.hid (show decodeP l = none by rw [HP.out, hp]; rfl)
      have HT := Lib.hid (HT.out.lost hc)
      clear hp hc he
      go_wp2_with fail
      exact door_panic _ rfl rfl u HT.out HPP.out
    have HP := Lib.hid (show decodeP l = dP (bindP (takesP declP l2) fun x2 l3 => bindP (takesP functionP l3) fun x3 l4 => some ((⟨x0, x1, x2, x3⟩ : Un), l4)) by rw [HP.out, hp]; rfl)
    obtain ⟨A1, c1, rfl, y⟩ := ValL.slImp hv
    have HN1 := Lib.hid (show w.heap.size < (w10.setCell ⟨w.heap.size, 0, none⟩ (.string x0)).heap.size ∧ wd.heap.size < (w10.setCell ⟨w.heap.size, 0, none⟩ (.string x0)).heap.size from ⟨lt_of_block HT.out.ba, HT.out.rd.lt⟩)
    have hset : Chg (fun k => k = w.heap.size) w11 (w11.setCell ⟨w.heap.size, 1, none⟩ (.slice A1 x1.length c1)) := (Chg.refl (fun k => k = w.heap.size) w11).setCell (p := ⟨w.heap.size, 1, none⟩) (fun _ => rfl) _
    have HY1 := Lib.hid (y.later hset (fun k q => by have := HN1.out; omega)); clear y
    have HT := Lib.hid (HT.out.call hs hc)
    have f : w11.frozen? ⟨w.heap.size, 1, none⟩ = false := free_at HT.out.ba 1
    have c_ : w11.cell? ⟨w.heap.size, 1, none⟩ = some (.slice none 0 0) := (cell_at HT.out.ba 1).trans rfl
    have HT : Hid (DRd w (w11.setCell ⟨w.heap.size, 1, none⟩ (.slice A1 x1.length c1)) wd.heap.size [.string x0, .slice A1 x1.length c1, .slice none 0 0, .slice none 0 0] l2) := Lib.hid (HT.out.put 1 (.slice A1 x1.length c1))
    clear hset hp hs hc he hv
    go_wp2_with fail
    clear f c_
    refine (takesDcl_any w _ wd.heap.size 0 _ _ enters46 (decl_any w wd.heap.size 0 HTY.out enters73 (field_any w wd.heap.size 0 HTY.out)) l2 HT.out.rd).mono ?_
    intro e w12 he
    rcases he.split with ⟨x2, l3, v2, hp, rfl, hv, hs, hc⟩ | ⟨hp, u, rfl, hc⟩
    case inr =>
      have HPP := Lib.hid (show decodeP l = none by rw [HP.out, hp]; rfl)
      have HT := Lib.hid (HT.out.lost hc)
      clear hp hc he
      go_wp2_with fail
      exact door_panic _ rfl rfl u HT.out HPP.out
    have HP := Lib.hid (show decodeP l = dP (bindP (takesP functionP l3) fun x3 l4 => some ((⟨x0, x1, x2, x3⟩ : Un), l4)) by rw [HP.out, hp]; rfl)
    obtain ⟨A2, c2, rfl, y⟩ := ValL.slDcl hv
    have HN2 := Lib.hid (show w.heap.size < (w11.setCell ⟨w.heap.size, 1, none⟩ (.slice A1 x1.length c1)).heap.size ∧ wd.heap.size < (w11.setCell ⟨w.heap.size, 1, none⟩ (.slice A1 x1.length c1)).heap.size from ⟨lt_of_block HT.out.ba, HT.out.rd.lt⟩)
    obtain ⟨e2, g2, y2⟩ := hv.2
    have hset : Chg (fun k => k = w.heap.size) w12 (w12.setCell ⟨w.heap.size, 2, none⟩ (.slice A2 x2.length c2)) := (Chg.refl (fun k => k = w.heap.size) w12).setCell (p := ⟨w.heap.size, 2, none⟩) (fun _ => rfl) _
    have HY1 := Lib.hid ((HY1.out.later hc (fun k q => by have := HN1.out; omega)).later hset (fun k q => by have := HN1.out; omega))
    have HY2 := Lib.hid (y.later hset (fun k q => by have := HN2.out; omega)); clear y
    have HO2 := Lib.hid (own_apart hset (fun k q => by have := HN2.out; omega) y2); clear y2
    have HT := Lib.hid (HT.out.call hs hc)
    have f : w12.frozen? ⟨w.heap.size, 2, none⟩ = false := free_at HT.out.ba 2
    have c_ : w12.cell? ⟨w.heap.size, 2, none⟩ = some (.slice none 0 0) := (cell_at HT.out.ba 2).trans rfl
    have HT : Hid (DRd w (w12.setCell ⟨w.heap.size, 2, none⟩ (.slice A2 x2.length c2)) wd.heap.size [.string x0, .slice A1 x1.length c1, .slice A2 x2.length c2, .slice none 0 0] l3) := Lib.hid (HT.out.put 2 (.slice A2 x2.length c2))
    clear hset hp hs hc he hv
    go_wp2_with fail
    clear f c_
    refine (takesFn_any w _ wd.heap.size 0 _ _ enters48 (function_any w wd.heap.size 0 enters76 HST.out) l3 HT.out.rd).mono ?_
    intro e w13 he
    rcases he.split with ⟨x3, l4, v3, hp, rfl, hv, hs, hc⟩ | ⟨hp, u, rfl, hc⟩
    case inr =>
      have HPP := Lib.hid (show decodeP l = none by rw [HP.out, hp]; rfl)
      have HT := Lib.hid (HT.out.lost hc)
      clear hp hc he
      go_wp2_with fail
      exact door_panic _ rfl rfl u HT.out HPP.out
    have HP := Lib.hid (show decodeP l = dP (some ((⟨x0, x1, x2, x3⟩ : Un), l4)) by rw [HP.out, hp]; rfl)
    obtain ⟨A3, c3, rfl, y⟩ := ValL.slFn hv
    have HN3 := Lib.hid (show w.heap.size < (w12.setCell ⟨w.heap.size, 2, none⟩ (.slice A2 x2.length c2)).heap.size ∧ wd.heap.size < (w12.setCell ⟨w.heap.size, 2, none⟩ (.slice A2 x2.length c2)).heap.size from ⟨lt_of_block HT.out.ba, HT.out.rd.lt⟩)
    have hset : Chg (fun k => k = w.heap.size) w13 (w13.setCell ⟨w.heap.size, 3, none⟩ (.slice A3 x3.length c3)) := (Chg.refl (fun k => k = w.heap.size) w13).setCell (p := ⟨w.heap.size, 3, none⟩) (fun _ => rfl) _
    have HY1 := Lib.hid ((HY1.out.later hc (fun k q => by have := HN1.out; omega)).later hset (fun k q => by have := HN1.out; omega))
    have HY2 := Lib.hid ((HY2.out.later hc (fun k q => by have := HN2.out; omega)).later hset (fun k q => by have := HN2.out; omega))
    have HY3 := Lib.hid (y.later hset (fun k q => by have := HN3.out; omega)); clear y
    have HO2 := Lib.hid (own_apart hset (fun k q => by have := HN2.out; omega) (own_apart hc (fun k q => by have := HN2.out; omega) HO2.out))
    have HT := Lib.hid (HT.out.call hs hc)
    have f : w13.frozen? ⟨w.heap.size, 3, none⟩ = false := free_at HT.out.ba 3
    have c_ : w13.cell? ⟨w.heap.size, 3, none⟩ = some (.slice none 0 0) := (cell_at HT.out.ba 3).trans rfl
    have HT : Hid (DRd w (w13.setCell ⟨w.heap.size, 3, none⟩ (.slice A3 x3.length c3)) wd.heap.size [.string x0, .slice A1 x1.length c1, .slice A2 x2.length c2, .slice A3 x3.length c3] l4) := Lib.hid (HT.out.put 3 (.slice A3 x3.length c3))
    clear hset hp hs hc he hv
    obtain ⟨bq, oq, cq, hbq, _, _⟩ := HT.out.rd.at_
    have cb : (w13.setCell ⟨w.heap.size, 3, none⟩ (.slice A3 x3.length c3)).cell? ⟨wd.heap.size, 0, none⟩ = some (.slice (some ⟨bq, oq, none⟩) l4.length cq) := (cell_at hbq 0).trans rfl
    have hl4 := HT.out.rd.len
    clear hbq
    by_cases hz : l4.length = 0
    case neg =>
      have hz' : 0 < (l4.length : Int) := by omega
      have HPP := Lib.hid (show decodeP l = none by
        rw [HP.out]
        cases l4 with
        | nil => exact absurd rfl hz
        | cons a r => rfl)
      have f0 : (w13.setCell ⟨w.heap.size, 3, none⟩ (.slice A3 x3.length c3)).frozen? ⟨w.heap.size, 0, none⟩ = false := free_at HT.out.ba 0
      have c_0 : (w13.setCell ⟨w.heap.size, 3, none⟩ (.slice A3 x3.length c3)).cell? ⟨w.heap.size, 0, none⟩ = some (.string x0) := (cell_at HT.out.ba 0).trans rfl
      have f1 : (w13.setCell ⟨w.heap.size, 3, none⟩ (.slice A3 x3.length c3)).frozen? ⟨w.heap.size, 1, none⟩ = false := free_at HT.out.ba 1
      have c_1 : (w13.setCell ⟨w.heap.size, 3, none⟩ (.slice A3 x3.length c3)).cell? ⟨w.heap.size, 1, none⟩ = some (.slice A1 x1.length c1) := (cell_at HT.out.ba 1).trans rfl
      have f2 : (w13.setCell ⟨w.heap.size, 3, none⟩ (.slice A3 x3.length c3)).frozen? ⟨w.heap.size, 2, none⟩ = false := free_at HT.out.ba 2
      have c_2 : (w13.setCell ⟨w.heap.size, 3, none⟩ (.slice A3 x3.length c3)).cell? ⟨w.heap.size, 2, none⟩ = some (.slice A2 x2.length c2) := (cell_at HT.out.ba 2).trans rfl
      have f3 : (w13.setCell ⟨w.heap.size, 3, none⟩ (.slice A3 x3.length c3)).frozen? ⟨w.heap.size, 3, none⟩ = false := free_at HT.out.ba 3
      have c_3 : (w13.setCell ⟨w.heap.size, 3, none⟩ (.slice A3 x3.length c3)).cell? ⟨w.heap.size, 3, none⟩ = some (.slice A3 x3.length c3) := (cell_at HT.out.ba 3).trans rfl
      have f4 : (w13.setCell ⟨w.heap.size, 3, none⟩ (.slice A3 x3.length c3)).frozen? ⟨w.heap.size + 1, 0, none⟩ = false := free_at HT.out.bb 0
      have c_4 : (w13.setCell ⟨w.heap.size, 3, none⟩ (.slice A3 x3.length c3)).cell? ⟨w.heap.size + 1, 0, none⟩ = some (.int .i64 0) := (cell_at HT.out.bb 0).trans rfl
      go_wp2_with fail
      exact door_fail _ rfl rfl (DLost.mk HT.out.rd.old ⟨_, _, _, _, rfl⟩ HT.out.ba HT.out.bb) HPP.out rfl
    case pos =>
      have hz' : ¬ 0 < (l4.length : Int) := by omega
      have HPP := Lib.hid (show decodeP l = some ⟨x0, x1, x2, x3⟩ by
        rw [HP.out]
        cases l4 with
        | nil => rfl
        | cons a r => simp at hz)
      have f0 : (w13.setCell ⟨w.heap.size, 3, none⟩ (.slice A3 x3.length c3)).frozen? ⟨w.heap.size, 0, none⟩ = false := free_at HT.out.ba 0
      have c_0 : (w13.setCell ⟨w.heap.size, 3, none⟩ (.slice A3 x3.length c3)).cell? ⟨w.heap.size, 0, none⟩ = some (.string x0) := (cell_at HT.out.ba 0).trans rfl
      have f1 : (w13.setCell ⟨w.heap.size, 3, none⟩ (.slice A3 x3.length c3)).frozen? ⟨w.heap.size, 1, none⟩ = false := free_at HT.out.ba 1
      have c_1 : (w13.setCell ⟨w.heap.size, 3, none⟩ (.slice A3 x3.length c3)).cell? ⟨w.heap.size, 1, none⟩ = some (.slice A1 x1.length c1) := (cell_at HT.out.ba 1).trans rfl
      have f2 : (w13.setCell ⟨w.heap.size, 3, none⟩ (.slice A3 x3.length c3)).frozen? ⟨w.heap.size, 2, none⟩ = false := free_at HT.out.ba 2
      have c_2 : (w13.setCell ⟨w.heap.size, 3, none⟩ (.slice A3 x3.length c3)).cell? ⟨w.heap.size, 2, none⟩ = some (.slice A2 x2.length c2) := (cell_at HT.out.ba 2).trans rfl
      have f3 : (w13.setCell ⟨w.heap.size, 3, none⟩ (.slice A3 x3.length c3)).frozen? ⟨w.heap.size, 3, none⟩ = false := free_at HT.out.ba 3
      have c_3 : (w13.setCell ⟨w.heap.size, 3, none⟩ (.slice A3 x3.length c3)).cell? ⟨w.heap.size, 3, none⟩ = some (.slice A3 x3.length c3) := (cell_at HT.out.ba 3).trans rfl
      have f4 : (w13.setCell ⟨w.heap.size, 3, none⟩ (.slice A3 x3.length c3)).frozen? ⟨w.heap.size + 1, 0, none⟩ = false := free_at HT.out.bb 0
      have c_4 : (w13.setCell ⟨w.heap.size, 3, none⟩ (.slice A3 x3.length c3)).cell? ⟨w.heap.size + 1, 0, none⟩ = some (.int .i64 0) := (cell_at HT.out.bb 0).trans rfl
      have hset : Chg (fun k => k = w.heap.size ∨ k = w.heap.size + 1) (w13.setCell ⟨w.heap.size, 3, none⟩ (.slice A3 x3.length c3)) ((((((w13.setCell ⟨w.heap.size, 3, none⟩ (.slice A3 x3.length c3)).setCell ⟨w.heap.size, 0, none⟩ (.string x0)).setCell ⟨w.heap.size, 1, none⟩ (.slice A1 x1.length c1)).setCell ⟨w.heap.size, 2, none⟩ (.slice A2 x2.length c2)).setCell ⟨w.heap.size, 3, none⟩ (.slice A3 x3.length c3)).setCell ⟨w.heap.size + 1, 0, none⟩ (.int .i64 0)) := ((((((Chg.refl (fun k => k = w.heap.size ∨ k = w.heap.size + 1) (w13.setCell ⟨w.heap.size, 3, none⟩ (.slice A3 x3.length c3))).setCell (p := ⟨w.heap.size, 0, none⟩) (fun _ => .inl rfl) (.string x0)).setCell (p := ⟨w.heap.size, 1, none⟩) (fun _ => .inl rfl) (.slice A1 x1.length c1)).setCell (p := ⟨w.heap.size, 2, none⟩) (fun _ => .inl rfl) (.slice A2 x2.length c2)).setCell (p := ⟨w.heap.size, 3, none⟩) (fun _ => .inl rfl) (.slice A3 x3.length c3)).setCell (p := ⟨w.heap.size + 1, 0, none⟩) (fun _ => .inr rfl) (.int .i64 0))
      have hz0 : ((w13.setCell ⟨w.heap.size, 3, none⟩ (.slice A3 x3.length c3)).setCell ⟨w.heap.size, 0, none⟩ (.string x0)).heap[w.heap.size]? = some (.cells #[.string x0, .slice A1 x1.length c1, .slice A2 x2.length c2, .slice A3 x3.length c3] 30 (0, 0)) := set_at HT.out.ba 0 (.string x0)
      have hz1 : (((w13.setCell ⟨w.heap.size, 3, none⟩ (.slice A3 x3.length c3)).setCell ⟨w.heap.size, 0, none⟩ (.string x0)).setCell ⟨w.heap.size, 1, none⟩ (.slice A1 x1.length c1)).heap[w.heap.size]? = some (.cells #[.string x0, .slice A1 x1.length c1, .slice A2 x2.length c2, .slice A3 x3.length c3] 30 (0, 0)) := set_at hz0 1 (.slice A1 x1.length c1)
      have hz2 : ((((w13.setCell ⟨w.heap.size, 3, none⟩ (.slice A3 x3.length c3)).setCell ⟨w.heap.size, 0, none⟩ (.string x0)).setCell ⟨w.heap.size, 1, none⟩ (.slice A1 x1.length c1)).setCell ⟨w.heap.size, 2, none⟩ (.slice A2 x2.length c2)).heap[w.heap.size]? = some (.cells #[.string x0, .slice A1 x1.length c1, .slice A2 x2.length c2, .slice A3 x3.length c3] 30 (0, 0)) := set_at hz1 2 (.slice A2 x2.length c2)
      have hz3 : (((((w13.setCell ⟨w.heap.size, 3, none⟩ (.slice A3 x3.length c3)).setCell ⟨w.heap.size, 0, none⟩ (.string x0)).setCell ⟨w.heap.size, 1, none⟩ (.slice A1 x1.length c1)).setCell ⟨w.heap.size, 2, none⟩ (.slice A2 x2.length c2)).setCell ⟨w.heap.size, 3, none⟩ (.slice A3 x3.length c3)).heap[w.heap.size]? = some (.cells #[.string x0, .slice A1 x1.length c1, .slice A2 x2.length c2, .slice A3 x3.length c3] 30 (0, 0)) := set_at hz2 3 (.slice A3 x3.length c3)
      have HBA := Lib.hid (show ((((((w13.setCell ⟨w.heap.size, 3, none⟩ (.slice A3 x3.length c3)).setCell ⟨w.heap.size, 0, none⟩ (.string x0)).setCell ⟨w.heap.size, 1, none⟩ (.slice A1 x1.length c1)).setCell ⟨w.heap.size, 2, none⟩ (.slice A2 x2.length c2)).setCell ⟨w.heap.size, 3, none⟩ (.slice A3 x3.length c3)).setCell ⟨w.heap.size + 1, 0, none⟩ (.int .i64 0)).heap[w.heap.size]? = some (.cells #[.string x0, .slice A1 x1.length c1, .slice A2 x2.length c2, .slice A3 x3.length c3] 30 (0, 0)) from set_old hz3 (p := ⟨w.heap.size + 1, 0, none⟩) (by simp) (.int .i64 0))
      have HBB := Lib.hid (show ((((((w13.setCell ⟨w.heap.size, 3, none⟩ (.slice A3 x3.length c3)).setCell ⟨w.heap.size, 0, none⟩ (.string x0)).setCell ⟨w.heap.size, 1, none⟩ (.slice A1 x1.length c1)).setCell ⟨w.heap.size, 2, none⟩ (.slice A2 x2.length c2)).setCell ⟨w.heap.size, 3, none⟩ (.slice A3 x3.length c3)).setCell ⟨w.heap.size + 1, 0, none⟩ (.int .i64 0)).heap[w.heap.size + 1]? = some (.cells #[.int .i64 0] 32 (0, 0)) from set_at (set_old (set_old (set_old (set_old HT.out.bb (p := ⟨w.heap.size, 0, none⟩) (by simp) (.string x0)) (p := ⟨w.heap.size, 1, none⟩) (by simp) (.slice A1 x1.length c1)) (p := ⟨w.heap.size, 2, none⟩) (by simp) (.slice A2 x2.length c2)) (p := ⟨w.heap.size, 3, none⟩) (by simp) (.slice A3 x3.length c3)) 0 (.int .i64 0))
      have HB := Lib.hid (Below.chg HT.out.rd.old hset HT.out.rd.old.size (fun i q => by omega))
      have HO2 := Lib.hid (own_apart hset (fun k q => by have := HN2.out; have := HD.out.size; omega) HO2.out)
      have HY1 := Lib.hid (HY1.out.later hset (fun k q => by have := HN1.out; have := HD.out.size; omega))
      have HY2 := Lib.hid (HY2.out.later hset (fun k q => by have := HN2.out; have := HD.out.size; omega))
      have HY3 := Lib.hid (HY3.out.later hset (fun k q => by have := HN3.out; have := HD.out.size; omega))
      clear hset hz0 hz1 hz2 hz3
      go_wp2_with fail
      exact door_done _ rfl rfl HBA.out HBB.out HB.out (Un.shut (w := NewW w.heap.size none _) (t := ⟨x0, x1, x2, x3⟩) HX0.out (HY1.out.low (by have := HN1.out; omega)) (HY2.out.low (by have := HN2.out; omega)) (HY3.out.low (by have := HN3.out; omega))) HPP.out ⟨e2, _, g2, Nat.le_of_lt HN2.out.1, HO2.out⟩
/-- Whatever bytes it is handed. -/
theorem decode_any (w : World) (l : List UInt8) (A : Option Addr) (c : Nat) (hr : RdB w A l) (hc : l.length ≤ c) (hn : l.length ≤ Reach) : Calls Try.prog 19 #[.slice A l.length c] w (DecPost w l) := by
  by_cases hs : l.length < 12 ∨ 262144 < l.length
  · exact decode_short w l A c hc hn hs
  · obtain ⟨b, o, rfl, _⟩ := hr 0 (by omega)
    exact decode_walk w l b o c l.length (l.length - 8) (l.length - 12) rfl (by omega) (by omega) hr hc (by omega)
end Go.Proofs.Ytghnaaahkbnhlaa
