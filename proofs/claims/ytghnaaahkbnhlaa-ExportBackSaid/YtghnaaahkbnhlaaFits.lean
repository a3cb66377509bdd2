/-
  The walks of slices.IndexFunc and ContainsFunc over the plain types, and of export's typeFits, exprFits, statFits, shallow. The conditions: the lists read; the predicate has a contract of its own.
-/
import Derived.Test.YtghnaaahkbnhlaaAns
namespace Go.Proofs.Ytghnaaahkbnhlaa
open Go.RowKit
set_option linter.unusedVariables false

/-- The number of the first that p holds of; -1: there is none. -/
def idxI {α : Type} (p : α → Bool) (l : List α) : Int := if l.any p then (l.findIdx p : Int) else -1
theorem idxI_hit {α : Type} (p : α → Bool) (l : List α) (k : Nat) (hk : k < l.length) (h : ∀ j (hj : j < l.length), j < k → p l[j] = false) (hp : p l[k] = true) : idxI p l = k := by
  have ha : l.any p = true := List.any_eq_true.2 ⟨l[k], List.getElem_mem hk, hp⟩
  rw [idxI, if_pos ha, (List.findIdx_eq hk).2 ⟨hp, fun j hj => h j (by omega) hj⟩]
theorem idxI_miss {α : Type} (p : α → Bool) (l : List α) (h : ∀ j (hj : j < l.length), p l[j] = false) : idxI p l = -1 := by
  have ha : l.any p = false := by
    rw [List.any_eq_false]
    intro x hx
    obtain ⟨j, hj, rfl⟩ := List.getElem_of_mem hx
    rw [h j hj]; simp
  rw [idxI, if_neg (by simp [ha])]
theorem idxI_any {α : Type} (p : α → Bool) (l : List α) : decide (idxI p l ≥ 0) = l.any p := by
  unfold idxI
  cases h : l.any p <;> simp
theorem idxI_ge {α : Type} (p : α → Bool) (l : List α) : -1 ≤ idxI p l := by
  unfold idxI
  split <;> omega
/-- A call by number goes into the function. -/
def Enters (f : Nat) : Prop := ∀ (args : Array Value) (w : World), (callFunc f args).run Try.prog w = .ok (.enter f args) w
/-- The predicate's contract at one element. -/
def PredTy (w0 : World) (f : Nat) (cap : Array Value) (t : Ty) (r : Bool) : Prop := ∀ (w : World) (vs : List Value), Below w0.heap.size w0 w → Vals w t.d vs → Calls Try.prog f (#[.agg vs.toArray] ++ cap) w (Ans w (.bool r))
def IdxLoopTy (w0 : World) (p : Ty → Bool) (l : List Ty) (k : Nat) (wr : World) : Prop := (∀ j (hj : j < l.length), j < k → p l[j] = false) ∧ Below w0.heap.size w0 wr
theorem IdxLoopTy.next {w w2 : World} {p : Ty → Bool} {l : List Ty} {k : Nat} (h : ∀ j (hj : j < l.length), j < k → p l[j] = false) (hk : k < l.length) (hp : p l[k] = false) (hb : Below w.heap.size w w2) : IdxLoopTy w p l (k + 1) w2 :=
  ⟨fun j hj hjk => by
    by_cases e : j = k
    · subst e; exact hp
    · exact h j hj (by omega), hb⟩
set_option maxRecDepth 100000 in
set_option maxHeartbeats 400000 in
theorem indexTy_any (w : World) (f : Nat) (cap : Array Value) (hf : Enters f) (l : List Ty) (A : Option Addr) (c : Nat) (hl : SL w 5 (Ty.ds l) l.length A c) (p : Ty → Bool) (hp : ∀ t ∈ l, PredTy w f cap t (p t)) :
    Calls Try.prog 103 #[.slice A l.length c, .func (.func f) #[] cap] w (Ans w (.int .i64 (idxI p l))) := by
  have hr := hl.2.2.1
  unfold Reach at hr
  have HL := Lib.hid hl; clear hl
  have HP := Lib.hid hp; clear hp
  have HF := hf; unfold Enters at hf; have HE := Lib.hid HF; clear HF
  go_enter Try.func103, Try.ntmps103
  go_wp2_with fail
  go_loopw [8] (fun i wr => ∃ k : Nat, k ≤ l.length ∧ i = .int .i64 k ∧ IdxLoopTy w p l k wr) (fun i _ => l.length - (intOf i).toNat)
  case atStart => exact ⟨0, Nat.zero_le _, rfl, fun _ _ h => absurd h (Nat.not_lt_zero _), Below.refl _ _⟩
  case round =>
    obtain ⟨k, hk, rfl, hw⟩ := hrel
    by_cases hlt : k < l.length
    · obtain ⟨b, o, hA, A3, c3, A4, c4, e0, e1, e2, e3, e4, q0, q1, q2, q3, q4⟩ := Ty.at HL.out.2.2.2 k hlt
      subst hA
      have hsub := Below.sub hw.2
      have HV := Lib.hid ((Ty.shut (w := w) (t := l[k]) q0 q1 q2 q3 q4).sub hsub)
      have f0 := hsub _ _ e0
      have f1 := hsub _ _ e1
      have f2 := hsub _ _ e2
      have f3 := hsub _ _ e3
      have f4 := hsub _ _ e4
      have HB := Lib.hid hw.2
      have HN := Lib.hid hw.1
      clear hw hsub e0 e1 e2 e3 e4 q0 q1 q2 q3 q4
      cases hpk : p l[k] with
      | true =>
        have HK := Lib.hid hpk; clear hpk
        go_wp2_with fail
        refine ((HP.out l[k] (List.getElem_mem hlt) _ _ HB.out HV.out).mono ?_)
        rintro e w2 he
        obtain ⟨rfl, hb2⟩ := he.bool HK.out; clear he
        have HB2 := Lib.hid (HB.out.trans (hb2.mono HB.out.size)); clear hb2
        go_wp2_with fail
        refine bodyPost_ret (results_tmp rfl _ _ _) rfl ⟨?_, HB2.out⟩
        rw [idxI_hit p l k hlt HN.out HK.out]; rfl
      | false =>
        have HK := Lib.hid hpk; clear hpk
        go_wp2_with fail
        refine ((HP.out l[k] (List.getElem_mem hlt) _ _ HB.out HV.out).mono ?_)
        rintro e w2 he
        obtain ⟨rfl, hb2⟩ := he.bool HK.out; clear he
        have HB2 := Lib.hid (HB.out.trans (hb2.mono HB.out.size)); clear hb2
        go_wp2_with fail
        go_roundw
        case rel => exact ⟨k + 1, by omega, by go_num, IdxLoopTy.next HN.out hlt HK.out HB2.out⟩
        case measure => simp [intOf]; omega
    · have HB := Lib.hid hw.2
      have HN := Lib.hid hw.1
      clear hw
      go_wp2_with fail
      refine bodyPost_ret (results_tmp rfl _ _ _) rfl ⟨?_, HB.out⟩
      rw [idxI_miss p l (fun j hj => HN.out j hj (by omega))]; rfl
set_option maxHeartbeats 400000 in
theorem containsTy_any (w : World) (f : Nat) (cap : Array Value) (hf : Enters f) (l : List Ty) (A : Option Addr) (c : Nat) (hl : SL w 5 (Ty.ds l) l.length A c) (p : Ty → Bool) (hp : ∀ t ∈ l, PredTy w f cap t (p t)) (r : Bool) (hr : l.any p = r) :
    Calls Try.prog 78 #[.slice A l.length c, .func (.func f) #[] cap] w (Ans w (.bool r)) := by
  have h1 := Lib.hid (indexTy_any w f cap hf l A c hl p hp)
  have HR := Lib.hid hr; clear hr hl hp hf
  go_enter Try.func78, Try.ntmps78
  go_wp2_with fail
  refine h1.out.mono ?_
  rintro e w1 ⟨rfl, hb⟩
  have HB := Lib.hid hb; clear hb
  go_wp2_with fail
  refine bodyPost_ret (results_tmp rfl _ _ _) rfl ⟨?_, HB.out⟩
  rw [← HR.out, ← idxI_any p l]; rfl

/-- The predicate's contract at one element. -/
def PredFld (w0 : World) (f : Nat) (cap : Array Value) (t : Fld) (r : Bool) : Prop := ∀ (w : World) (vs : List Value), Below w0.heap.size w0 w → Vals w t.d vs → Calls Try.prog f (#[.agg vs.toArray] ++ cap) w (Ans w (.bool r))
def IdxLoopFld (w0 : World) (p : Fld → Bool) (l : List Fld) (k : Nat) (wr : World) : Prop := (∀ j (hj : j < l.length), j < k → p l[j] = false) ∧ Below w0.heap.size w0 wr
theorem IdxLoopFld.next {w w2 : World} {p : Fld → Bool} {l : List Fld} {k : Nat} (h : ∀ j (hj : j < l.length), j < k → p l[j] = false) (hk : k < l.length) (hp : p l[k] = false) (hb : Below w.heap.size w w2) : IdxLoopFld w p l (k + 1) w2 :=
  ⟨fun j hj hjk => by
    by_cases e : j = k
    · subst e; exact hp
    · exact h j hj (by omega), hb⟩
set_option maxRecDepth 100000 in
set_option maxHeartbeats 400000 in
theorem indexFld_any (w : World) (f : Nat) (cap : Array Value) (hf : Enters f) (l : List Fld) (A : Option Addr) (c : Nat) (hl : SL w 6 (Fld.ds l) l.length A c) (p : Fld → Bool) (hp : ∀ t ∈ l, PredFld w f cap t (p t)) :
    Calls Try.prog 81 #[.slice A l.length c, .func (.func f) #[] cap] w (Ans w (.int .i64 (idxI p l))) := by
  have hr := hl.2.2.1
  unfold Reach at hr
  have HL := Lib.hid hl; clear hl
  have HP := Lib.hid hp; clear hp
  have HF := hf; unfold Enters at hf; have HE := Lib.hid HF; clear HF
  go_enter Try.func81, Try.ntmps81
  go_wp2_with fail
  go_loopw [8] (fun i wr => ∃ k : Nat, k ≤ l.length ∧ i = .int .i64 k ∧ IdxLoopFld w p l k wr) (fun i _ => l.length - (intOf i).toNat)
  case atStart => exact ⟨0, Nat.zero_le _, rfl, fun _ _ h => absurd h (Nat.not_lt_zero _), Below.refl _ _⟩
  case round =>
    obtain ⟨k, hk, rfl, hw⟩ := hrel
    by_cases hlt : k < l.length
    · obtain ⟨b, o, hA, A4, c4, A5, c5, e0, e1, e2, e3, e4, e5, q0, q1, q2, q3, q4, q5⟩ := Fld.at HL.out.2.2.2 k hlt
      subst hA
      have hsub := Below.sub hw.2
      have HV := Lib.hid ((Fld.shut (w := w) (t := l[k]) q0 q1 q2 q3 q4 q5).sub hsub)
      have f0 := hsub _ _ e0
      have f1 := hsub _ _ e1
      have f2 := hsub _ _ e2
      have f3 := hsub _ _ e3
      have f4 := hsub _ _ e4
      have f5 := hsub _ _ e5
      have HB := Lib.hid hw.2
      have HN := Lib.hid hw.1
      clear hw hsub e0 e1 e2 e3 e4 e5 q0 q1 q2 q3 q4 q5
      cases hpk : p l[k] with
      | true =>
        have HK := Lib.hid hpk; clear hpk
        go_wp2_with fail
        refine ((HP.out l[k] (List.getElem_mem hlt) _ _ HB.out HV.out).mono ?_)
        rintro e w2 he
        obtain ⟨rfl, hb2⟩ := he.bool HK.out; clear he
        have HB2 := Lib.hid (HB.out.trans (hb2.mono HB.out.size)); clear hb2
        go_wp2_with fail
        refine bodyPost_ret (results_tmp rfl _ _ _) rfl ⟨?_, HB2.out⟩
        rw [idxI_hit p l k hlt HN.out HK.out]; rfl
      | false =>
        have HK := Lib.hid hpk; clear hpk
        go_wp2_with fail
        refine ((HP.out l[k] (List.getElem_mem hlt) _ _ HB.out HV.out).mono ?_)
        rintro e w2 he
        obtain ⟨rfl, hb2⟩ := he.bool HK.out; clear he
        have HB2 := Lib.hid (HB.out.trans (hb2.mono HB.out.size)); clear hb2
        go_wp2_with fail
        go_roundw
        case rel => exact ⟨k + 1, by omega, by go_num, IdxLoopFld.next HN.out hlt HK.out HB2.out⟩
        case measure => simp [intOf]; omega
    · have HB := Lib.hid hw.2
      have HN := Lib.hid hw.1
      clear hw
      go_wp2_with fail
      refine bodyPost_ret (results_tmp rfl _ _ _) rfl ⟨?_, HB.out⟩
      rw [idxI_miss p l (fun j hj => HN.out j hj (by omega))]; rfl
set_option maxHeartbeats 400000 in
theorem containsFld_any (w : World) (f : Nat) (cap : Array Value) (hf : Enters f) (l : List Fld) (A : Option Addr) (c : Nat) (hl : SL w 6 (Fld.ds l) l.length A c) (p : Fld → Bool) (hp : ∀ t ∈ l, PredFld w f cap t (p t)) (r : Bool) (hr : l.any p = r) :
    Calls Try.prog 52 #[.slice A l.length c, .func (.func f) #[] cap] w (Ans w (.bool r)) := by
  have h1 := Lib.hid (indexFld_any w f cap hf l A c hl p hp)
  have HR := Lib.hid hr; clear hr hl hp hf
  go_enter Try.func52, Try.ntmps52
  go_wp2_with fail
  refine h1.out.mono ?_
  rintro e w1 ⟨rfl, hb⟩
  have HB := Lib.hid hb; clear hb
  go_wp2_with fail
  refine bodyPost_ret (results_tmp rfl _ _ _) rfl ⟨?_, HB.out⟩
  rw [← HR.out, ← idxI_any p l]; rfl

/-- The predicate's contract at one element. -/
def PredSt (w0 : World) (f : Nat) (cap : Array Value) (t : St) (r : Bool) : Prop := ∀ (w : World) (vs : List Value), Below w0.heap.size w0 w → Vals w t.d vs → Calls Try.prog f (#[.agg vs.toArray] ++ cap) w (Ans w (.bool r))
def IdxLoopSt (w0 : World) (p : St → Bool) (l : List St) (k : Nat) (wr : World) : Prop := (∀ j (hj : j < l.length), j < k → p l[j] = false) ∧ Below w0.heap.size w0 wr
theorem IdxLoopSt.next {w w2 : World} {p : St → Bool} {l : List St} {k : Nat} (h : ∀ j (hj : j < l.length), j < k → p l[j] = false) (hk : k < l.length) (hp : p l[k] = false) (hb : Below w.heap.size w w2) : IdxLoopSt w p l (k + 1) w2 :=
  ⟨fun j hj hjk => by
    by_cases e : j = k
    · subst e; exact hp
    · exact h j hj (by omega), hb⟩
set_option maxRecDepth 100000 in
set_option maxHeartbeats 400000 in
theorem indexSt_any (w : World) (f : Nat) (cap : Array Value) (hf : Enters f) (l : List St) (A : Option Addr) (c : Nat) (hl : SL w 5 (St.ds l) l.length A c) (p : St → Bool) (hp : ∀ t ∈ l, PredSt w f cap t (p t)) :
    Calls Try.prog 82 #[.slice A l.length c, .func (.func f) #[] cap] w (Ans w (.int .i64 (idxI p l))) := by
  have hr := hl.2.2.1
  unfold Reach at hr
  have HL := Lib.hid hl; clear hl
  have HP := Lib.hid hp; clear hp
  have HF := hf; unfold Enters at hf; have HE := Lib.hid HF; clear HF
  go_enter Try.func82, Try.ntmps82
  go_wp2_with fail
  go_loopw [8] (fun i wr => ∃ k : Nat, k ≤ l.length ∧ i = .int .i64 k ∧ IdxLoopSt w p l k wr) (fun i _ => l.length - (intOf i).toNat)
  case atStart => exact ⟨0, Nat.zero_le _, rfl, fun _ _ h => absurd h (Nat.not_lt_zero _), Below.refl _ _⟩
  case round =>
    obtain ⟨k, hk, rfl, hw⟩ := hrel
    by_cases hlt : k < l.length
    · obtain ⟨b, o, hA, A2, c2, A3, c3, A4, c4, e0, e1, e2, e3, e4, q0, q1, q2, q3, q4⟩ := St.at HL.out.2.2.2 k hlt
      subst hA
      have hsub := Below.sub hw.2
      have HV := Lib.hid ((St.shut (w := w) (t := l[k]) q0 q1 q2 q3 q4).sub hsub)
      have f0 := hsub _ _ e0
      have f1 := hsub _ _ e1
      have f2 := hsub _ _ e2
      have f3 := hsub _ _ e3
      have f4 := hsub _ _ e4
      have HB := Lib.hid hw.2
      have HN := Lib.hid hw.1
      clear hw hsub e0 e1 e2 e3 e4 q0 q1 q2 q3 q4
      cases hpk : p l[k] with
      | true =>
        have HK := Lib.hid hpk; clear hpk
        go_wp2_with fail
        refine ((HP.out l[k] (List.getElem_mem hlt) _ _ HB.out HV.out).mono ?_)
        rintro e w2 he
        obtain ⟨rfl, hb2⟩ := he.bool HK.out; clear he
        have HB2 := Lib.hid (HB.out.trans (hb2.mono HB.out.size)); clear hb2
        go_wp2_with fail
        refine bodyPost_ret (results_tmp rfl _ _ _) rfl ⟨?_, HB2.out⟩
        rw [idxI_hit p l k hlt HN.out HK.out]; rfl
      | false =>
        have HK := Lib.hid hpk; clear hpk
        go_wp2_with fail
        refine ((HP.out l[k] (List.getElem_mem hlt) _ _ HB.out HV.out).mono ?_)
        rintro e w2 he
        obtain ⟨rfl, hb2⟩ := he.bool HK.out; clear he
        have HB2 := Lib.hid (HB.out.trans (hb2.mono HB.out.size)); clear hb2
        go_wp2_with fail
        go_roundw
        case rel => exact ⟨k + 1, by omega, by go_num, IdxLoopSt.next HN.out hlt HK.out HB2.out⟩
        case measure => simp [intOf]; omega
    · have HB := Lib.hid hw.2
      have HN := Lib.hid hw.1
      clear hw
      go_wp2_with fail
      refine bodyPost_ret (results_tmp rfl _ _ _) rfl ⟨?_, HB.out⟩
      rw [idxI_miss p l (fun j hj => HN.out j hj (by omega))]; rfl
set_option maxHeartbeats 400000 in
theorem containsSt_any (w : World) (f : Nat) (cap : Array Value) (hf : Enters f) (l : List St) (A : Option Addr) (c : Nat) (hl : SL w 5 (St.ds l) l.length A c) (p : St → Bool) (hp : ∀ t ∈ l, PredSt w f cap t (p t)) (r : Bool) (hr : l.any p = r) :
    Calls Try.prog 54 #[.slice A l.length c, .func (.func f) #[] cap] w (Ans w (.bool r)) := by
  have h1 := Lib.hid (indexSt_any w f cap hf l A c hl p hp)
  have HR := Lib.hid hr; clear hr hl hp hf
  go_enter Try.func54, Try.ntmps54
  go_wp2_with fail
  refine h1.out.mono ?_
  rintro e w1 ⟨rfl, hb⟩
  have HB := Lib.hid hb; clear hb
  go_wp2_with fail
  refine bodyPost_ret (results_tmp rfl _ _ _) rfl ⟨?_, HB.out⟩
  rw [← HR.out, ← idxI_any p l]; rfl

/-- The predicate's contract at one element. -/
def PredEx (w0 : World) (f : Nat) (cap : Array Value) (t : Ex) (r : Bool) : Prop := ∀ (w : World) (vs : List Value), Below w0.heap.size w0 w → Vals w t.d vs → Calls Try.prog f (#[.agg vs.toArray] ++ cap) w (Ans w (.bool r))
def IdxLoopEx (w0 : World) (p : Ex → Bool) (l : List Ex) (k : Nat) (wr : World) : Prop := (∀ j (hj : j < l.length), j < k → p l[j] = false) ∧ Below w0.heap.size w0 wr
theorem IdxLoopEx.next {w w2 : World} {p : Ex → Bool} {l : List Ex} {k : Nat} (h : ∀ j (hj : j < l.length), j < k → p l[j] = false) (hk : k < l.length) (hp : p l[k] = false) (hb : Below w.heap.size w w2) : IdxLoopEx w p l (k + 1) w2 :=
  ⟨fun j hj hjk => by
    by_cases e : j = k
    · subst e; exact hp
    · exact h j hj (by omega), hb⟩
set_option maxRecDepth 100000 in
set_option maxHeartbeats 400000 in
theorem indexEx_any (w : World) (f : Nat) (cap : Array Value) (hf : Enters f) (l : List Ex) (A : Option Addr) (c : Nat) (hl : SL w 4 (Ex.ds l) l.length A c) (p : Ex → Bool) (hp : ∀ t ∈ l, PredEx w f cap t (p t)) :
    Calls Try.prog 104 #[.slice A l.length c, .func (.func f) #[] cap] w (Ans w (.int .i64 (idxI p l))) := by
  have hr := hl.2.2.1
  unfold Reach at hr
  have HL := Lib.hid hl; clear hl
  have HP := Lib.hid hp; clear hp
  have HF := hf; unfold Enters at hf; have HE := Lib.hid HF; clear HF
  go_enter Try.func104, Try.ntmps104
  go_wp2_with fail
  go_loopw [8] (fun i wr => ∃ k : Nat, k ≤ l.length ∧ i = .int .i64 k ∧ IdxLoopEx w p l k wr) (fun i _ => l.length - (intOf i).toNat)
  case atStart => exact ⟨0, Nat.zero_le _, rfl, fun _ _ h => absurd h (Nat.not_lt_zero _), Below.refl _ _⟩
  case round =>
    obtain ⟨k, hk, rfl, hw⟩ := hrel
    by_cases hlt : k < l.length
    · obtain ⟨b, o, hA, A3, c3, e0, e1, e2, e3, q0, q1, q2, q3⟩ := Ex.at HL.out.2.2.2 k hlt
      subst hA
      have hsub := Below.sub hw.2
      have HV := Lib.hid ((Ex.shut (w := w) (t := l[k]) q0 q1 q2 q3).sub hsub)
      have f0 := hsub _ _ e0
      have f1 := hsub _ _ e1
      have f2 := hsub _ _ e2
      have f3 := hsub _ _ e3
      have HB := Lib.hid hw.2
      have HN := Lib.hid hw.1
      clear hw hsub e0 e1 e2 e3 q0 q1 q2 q3
      cases hpk : p l[k] with
      | true =>
        have HK := Lib.hid hpk; clear hpk
        go_wp2_with fail
        refine ((HP.out l[k] (List.getElem_mem hlt) _ _ HB.out HV.out).mono ?_)
        rintro e w2 he
        obtain ⟨rfl, hb2⟩ := he.bool HK.out; clear he
        have HB2 := Lib.hid (HB.out.trans (hb2.mono HB.out.size)); clear hb2
        go_wp2_with fail
        refine bodyPost_ret (results_tmp rfl _ _ _) rfl ⟨?_, HB2.out⟩
        rw [idxI_hit p l k hlt HN.out HK.out]; rfl
      | false =>
        have HK := Lib.hid hpk; clear hpk
        go_wp2_with fail
        refine ((HP.out l[k] (List.getElem_mem hlt) _ _ HB.out HV.out).mono ?_)
        rintro e w2 he
        obtain ⟨rfl, hb2⟩ := he.bool HK.out; clear he
        have HB2 := Lib.hid (HB.out.trans (hb2.mono HB.out.size)); clear hb2
        go_wp2_with fail
        go_roundw
        case rel => exact ⟨k + 1, by omega, by go_num, IdxLoopEx.next HN.out hlt HK.out HB2.out⟩
        case measure => simp [intOf]; omega
    · have HB := Lib.hid hw.2
      have HN := Lib.hid hw.1
      clear hw
      go_wp2_with fail
      refine bodyPost_ret (results_tmp rfl _ _ _) rfl ⟨?_, HB.out⟩
      rw [idxI_miss p l (fun j hj => HN.out j hj (by omega))]; rfl
set_option maxHeartbeats 400000 in
theorem containsEx_any (w : World) (f : Nat) (cap : Array Value) (hf : Enters f) (l : List Ex) (A : Option Addr) (c : Nat) (hl : SL w 4 (Ex.ds l) l.length A c) (p : Ex → Bool) (hp : ∀ t ∈ l, PredEx w f cap t (p t)) (r : Bool) (hr : l.any p = r) :
    Calls Try.prog 84 #[.slice A l.length c, .func (.func f) #[] cap] w (Ans w (.bool r)) := by
  have h1 := Lib.hid (indexEx_any w f cap hf l A c hl p hp)
  have HR := Lib.hid hr; clear hr hl hp hf
  go_enter Try.func84, Try.ntmps84
  go_wp2_with fail
  refine h1.out.mono ?_
  rintro e w1 ⟨rfl, hb⟩
  have HB := Lib.hid hb; clear hb
  go_wp2_with fail
  refine bodyPost_ret (results_tmp rfl _ _ _) rfl ⟨?_, HB.out⟩
  rw [← HR.out, ← idxI_any p l]; rfl

mutual
def fitTy : Ty → Int → Bool
  | .mk _ _ _ xs ys, a => decide (a ≤ 100) && (fitTyL xs (a + 1) && fitTyL ys (a + 1))
def fitTyL : List Ty → Int → Bool
  | [], _ => true
  | t :: r, a => fitTy t a && fitTyL r a
end
mutual
def fitEx : Ex → Int → Bool
  | .mk _ _ _ ks, a => decide (a ≤ 100) && fitExL ks (a + 1)
def fitExL : List Ex → Int → Bool
  | [], _ => true
  | t :: r, a => fitEx t a && fitExL r a
end
mutual
def fitSt : St → Int → Bool
  | .mk _ _ es bs ls, a => decide (a ≤ 100) && (fitExL es (a + 1) && (fitStL bs (a + 1) && fitStL ls (a + 1)))
def fitStL : List St → Int → Bool
  | [], _ => true
  | t :: r, a => fitSt t a && fitStL r a
end
theorem fitTy_eq (t : Ty) (a : Int) : fitTy t a = (decide (a ≤ 100) && (fitTyL t.args (a + 1) && fitTyL t.res (a + 1))) := by cases t; rfl
theorem fitEx_eq (t : Ex) (a : Int) : fitEx t a = (decide (a ≤ 100) && fitExL t.kids (a + 1)) := by cases t; rfl
theorem fitSt_eq (t : St) (a : Int) : fitSt t a = (decide (a ≤ 100) && (fitExL t.exprs (a + 1) && (fitStL t.body (a + 1) && fitStL t.els (a + 1)))) := by cases t; rfl

theorem fitTyL_any : ∀ (l : List Ty) (a : Int), l.any (fun t => !fitTy t a) = !fitTyL l a
  | [], _ => rfl
  | t :: r, a => by simp [fitTyL, fitTyL_any r a]
theorem fitExL_any : ∀ (l : List Ex) (a : Int), l.any (fun t => !fitEx t a) = !fitExL l a
  | [], _ => rfl
  | t :: r, a => by simp [fitExL, fitExL_any r a]
theorem fitStL_any : ∀ (l : List St) (a : Int), l.any (fun t => !fitSt t a) = !fitStL l a
  | [], _ => rfl
  | t :: r, a => by simp [fitStL, fitStL_any r a]
theorem enters53 : Enters 53 := fun args w => by simp [go_sem]
theorem enters55 : Enters 55 := fun args w => by simp [go_sem]
theorem enters79 : Enters 79 := fun args w => by simp [go_sem]
theorem enters80 : Enters 80 := fun args w => by simp [go_sem]
theorem enters83 : Enters 83 := fun args w => by simp [go_sem]
theorem enters85 : Enters 85 := fun args w => by simp [go_sem]
theorem enters105 : Enters 105 := fun args w => by simp [go_sem]
/-- The contract of Ty's own look at a depth. -/
def FitTy (t : Ty) (a : Int) : Prop := ∀ (w : World) (vs : List Value), Vals w t.d vs → Calls Try.prog 51 #[.agg vs.toArray, .int .i64 a] w (Ans w (.bool (fitTy t a)))
/-- The contract of Ex's own look at a depth. -/
def FitEx (t : Ex) (a : Int) : Prop := ∀ (w : World) (vs : List Value), Vals w t.d vs → Calls Try.prog 86 #[.agg vs.toArray, .int .i64 a] w (Ans w (.bool (fitEx t a)))
/-- The contract of St's own look at a depth. -/
def FitSt (t : St) (a : Int) : Prop := ∀ (w : World) (vs : List Value), Vals w t.d vs → Calls Try.prog 56 #[.agg vs.toArray, .int .i64 a] w (Ans w (.bool (fitSt t a)))
set_option maxHeartbeats 400000 in
theorem clos79_any (w0 : World) (kb : Nat) (a : Int) (ha : 0 ≤ a) (ha1 : a ≤ 100) (hk : w0.cell? ⟨kb, 0, none⟩ = some (.int .i64 a)) (t : Ty) (ht : FitTy t (a + 1)) : PredTy w0 79 #[.pointer (some ⟨kb, 0, none⟩)] t (!fitTy t (a + 1)) := by
  intro w vs hb hv
  have hc := Below.sub hb _ _ hk
  have hlt : kb < w.heap.size := World.block_lt_of_cell? w (a := ⟨kb, 0, none⟩) hc
  obtain ⟨A3, c3, A4, c4, rfl, q0, q1, q2, q3, q4⟩ := Ty.opn hv
  have HV := Lib.hid (hv.sub (Below.sub ((Below.refl _ w).alloc (Nat.le_refl _) (.cells #[.int .i64 t.kind, .string t.pkg, .string t.name, .slice A3 t.args.length c3, .slice A4 t.res.length c4] 44))))
  have HT := Lib.hid ht
  clear hv ht hb hk q0 q1 q2 q3 q4
  go_enter Try.func79, Try.ntmps79
  go_wp2_with fail
  refine (HT.out _ _ HV.out).mono ?_
  rintro e w1 ⟨rfl, hb⟩
  have HB := Lib.hid hb; clear hb
  go_wp2_with fail
  exact bodyPost_ret (results_tmp rfl _ _ _) rfl ⟨rfl, ((Below.refl _ w).alloc (Nat.le_refl _) _).trans (HB.out.mono (by simp))⟩
set_option maxHeartbeats 400000 in
theorem clos80_any (w0 : World) (kb : Nat) (a : Int) (ha : 0 ≤ a) (ha1 : a ≤ 100) (hk : w0.cell? ⟨kb, 0, none⟩ = some (.int .i64 a)) (t : Ty) (ht : FitTy t (a + 1)) : PredTy w0 80 #[.pointer (some ⟨kb, 0, none⟩)] t (!fitTy t (a + 1)) := by
  intro w vs hb hv
  have hc := Below.sub hb _ _ hk
  have hlt : kb < w.heap.size := World.block_lt_of_cell? w (a := ⟨kb, 0, none⟩) hc
  obtain ⟨A3, c3, A4, c4, rfl, q0, q1, q2, q3, q4⟩ := Ty.opn hv
  have HV := Lib.hid (hv.sub (Below.sub ((Below.refl _ w).alloc (Nat.le_refl _) (.cells #[.int .i64 t.kind, .string t.pkg, .string t.name, .slice A3 t.args.length c3, .slice A4 t.res.length c4] 44))))
  have HT := Lib.hid ht
  clear hv ht hb hk q0 q1 q2 q3 q4
  go_enter Try.func80, Try.ntmps80
  go_wp2_with fail
  refine (HT.out _ _ HV.out).mono ?_
  rintro e w1 ⟨rfl, hb⟩
  have HB := Lib.hid hb; clear hb
  go_wp2_with fail
  exact bodyPost_ret (results_tmp rfl _ _ _) rfl ⟨rfl, ((Below.refl _ w).alloc (Nat.le_refl _) _).trans (HB.out.mono (by simp))⟩
set_option maxHeartbeats 400000 in
theorem clos83_any (w0 : World) (kb : Nat) (a : Int) (ha : 0 ≤ a) (ha1 : a ≤ 100) (hk : w0.cell? ⟨kb, 0, none⟩ = some (.int .i64 a)) (t : St) (ht : FitSt t (a + 1)) : PredSt w0 83 #[.pointer (some ⟨kb, 0, none⟩)] t (!fitSt t (a + 1)) := by
  intro w vs hb hv
  have hc := Below.sub hb _ _ hk
  have hlt : kb < w.heap.size := World.block_lt_of_cell? w (a := ⟨kb, 0, none⟩) hc
  obtain ⟨A2, c2, A3, c3, A4, c4, rfl, q0, q1, q2, q3, q4⟩ := St.opn hv
  have HV := Lib.hid (hv.sub (Below.sub ((Below.refl _ w).alloc (Nat.le_refl _) (.cells #[.int .i64 t.op, .int .i64 t.n, .slice A2 t.exprs.length c2, .slice A3 t.body.length c3, .slice A4 t.els.length c4] 101))))
  have HT := Lib.hid ht
  clear hv ht hb hk q0 q1 q2 q3 q4
  go_enter Try.func83, Try.ntmps83
  go_wp2_with fail
  refine (HT.out _ _ HV.out).mono ?_
  rintro e w1 ⟨rfl, hb⟩
  have HB := Lib.hid hb; clear hb
  go_wp2_with fail
  exact bodyPost_ret (results_tmp rfl _ _ _) rfl ⟨rfl, ((Below.refl _ w).alloc (Nat.le_refl _) _).trans (HB.out.mono (by simp))⟩
set_option maxHeartbeats 400000 in
theorem clos85_any (w0 : World) (kb : Nat) (a : Int) (ha : 0 ≤ a) (ha1 : a ≤ 100) (hk : w0.cell? ⟨kb, 0, none⟩ = some (.int .i64 a)) (t : Ex) (ht : FitEx t (a + 1)) : PredEx w0 85 #[.pointer (some ⟨kb, 0, none⟩)] t (!fitEx t (a + 1)) := by
  intro w vs hb hv
  have hc := Below.sub hb _ _ hk
  have hlt : kb < w.heap.size := World.block_lt_of_cell? w (a := ⟨kb, 0, none⟩) hc
  obtain ⟨A3, c3, rfl, q0, q1, q2, q3⟩ := Ex.opn hv
  have HV := Lib.hid (hv.sub (Below.sub ((Below.refl _ w).alloc (Nat.le_refl _) (.cells #[.int .i64 t.op, .int .i64 t.n, .string t.name, .slice A3 t.kids.length c3] 132))))
  have HT := Lib.hid ht
  clear hv ht hb hk q0 q1 q2 q3
  go_enter Try.func85, Try.ntmps85
  go_wp2_with fail
  refine (HT.out _ _ HV.out).mono ?_
  rintro e w1 ⟨rfl, hb⟩
  have HB := Lib.hid hb; clear hb
  go_wp2_with fail
  exact bodyPost_ret (results_tmp rfl _ _ _) rfl ⟨rfl, ((Below.refl _ w).alloc (Nat.le_refl _) _).trans (HB.out.mono (by simp))⟩
set_option maxHeartbeats 400000 in
theorem clos105_any (w0 : World) (kb : Nat) (a : Int) (ha : 0 ≤ a) (ha1 : a ≤ 100) (hk : w0.cell? ⟨kb, 0, none⟩ = some (.int .i64 a)) (t : Ex) (ht : FitEx t (a + 1)) : PredEx w0 105 #[.pointer (some ⟨kb, 0, none⟩)] t (!fitEx t (a + 1)) := by
  intro w vs hb hv
  have hc := Below.sub hb _ _ hk
  have hlt : kb < w.heap.size := World.block_lt_of_cell? w (a := ⟨kb, 0, none⟩) hc
  obtain ⟨A3, c3, rfl, q0, q1, q2, q3⟩ := Ex.opn hv
  have HV := Lib.hid (hv.sub (Below.sub ((Below.refl _ w).alloc (Nat.le_refl _) (.cells #[.int .i64 t.op, .int .i64 t.n, .string t.name, .slice A3 t.kids.length c3] 132))))
  have HT := Lib.hid ht
  clear hv ht hb hk q0 q1 q2 q3
  go_enter Try.func105, Try.ntmps105
  go_wp2_with fail
  refine (HT.out _ _ HV.out).mono ?_
  rintro e w1 ⟨rfl, hb⟩
  have HB := Lib.hid hb; clear hb
  go_wp2_with fail
  exact bodyPost_ret (results_tmp rfl _ _ _) rfl ⟨rfl, ((Below.refl _ w).alloc (Nat.le_refl _) _).trans (HB.out.mono (by simp))⟩
set_option maxHeartbeats 400000 in
theorem clos53_any (w0 : World) (t : Fld) (ht : FitTy t.type 0) : PredFld w0 53 #[] t (!fitTy t.type 0) := by
  intro w vs hb hv
  obtain ⟨A4, c4, A5, c5, rfl, q0, q1, q2, q3, q4, q5⟩ := Fld.opn hv
  have HV := Lib.hid ((Ty.shut (w := w) (t := t.type) q1 q2 q3 q4 q5).sub (Below.sub ((Below.refl _ w).alloc (Nat.le_refl _) (.cells #[.string t.name, .int .i64 t.type.kind, .string t.type.pkg, .string t.type.name, .slice A4 t.type.args.length c4, .slice A5 t.type.res.length c5] 93))))
  have HT := Lib.hid ht
  clear hv ht hb q0 q1 q2 q3 q4 q5
  go_enter Try.func53, Try.ntmps53
  go_wp2_with fail
  refine (HT.out _ _ HV.out).mono ?_
  rintro e w1 ⟨rfl, hb⟩
  have HB := Lib.hid hb; clear hb
  go_wp2_with fail
  exact bodyPost_ret (results_tmp rfl _ _ _) rfl ⟨rfl, ((Below.refl _ w).alloc (Nat.le_refl _) _).trans (HB.out.mono (by simp))⟩
set_option maxHeartbeats 400000 in
theorem clos55_any (w0 : World) (t : St) (ht : FitSt t 0) : PredSt w0 55 #[] t (!fitSt t 0) := by
  intro w vs hb hv
  obtain ⟨A2, c2, A3, c3, A4, c4, rfl, q0, q1, q2, q3, q4⟩ := St.opn hv
  have HV := Lib.hid (hv.sub (Below.sub ((Below.refl _ w).alloc (Nat.le_refl _) (.cells #[.int .i64 t.op, .int .i64 t.n, .slice A2 t.exprs.length c2, .slice A3 t.body.length c3, .slice A4 t.els.length c4] 101))))
  have HT := Lib.hid ht
  clear hv ht hb q0 q1 q2 q3 q4
  go_enter Try.func55, Try.ntmps55
  go_wp2_with fail
  refine (HT.out _ _ HV.out).mono ?_
  rintro e w1 ⟨rfl, hb⟩
  have HB := Lib.hid hb; clear hb
  go_wp2_with fail
  exact bodyPost_ret (results_tmp rfl _ _ _) rfl ⟨rfl, ((Below.refl _ w).alloc (Nat.le_refl _) _).trans (HB.out.mono (by simp))⟩
set_option maxRecDepth 100000 in
set_option maxHeartbeats 800000 in
theorem fitsTy_any (t : Ty) (a : Int) (ha : 0 ≤ a) (ha2 : a ≤ 101) (o_args : ∀ x ∈ t.args, a ≤ 100 → FitTy x (a + 1)) (o_res : ∀ x ∈ t.res, a ≤ 100 → FitTy x (a + 1)) : FitTy t a := by
  intro w vs hv
  obtain ⟨A3, c3, A4, c4, rfl, q0, q1, q2, q3, q4⟩ := Ty.opn hv
  by_cases ha1 : a ≤ 100
  · have hw2 : Below w.heap.size w ((w.alloc (.cells #[.int .i64 t.kind, .string t.pkg, .string t.name, .slice A3 t.args.length c3, .slice A4 t.res.length c4] 44)).alloc (.cells #[.int .i64 a] 3)) := ((Below.refl _ w).alloc (Nat.le_refl _) _).alloc (by simp) _
    have hA1 := alloc_old (alloc_at w (.cells #[.int .i64 t.kind, .string t.pkg, .string t.name, .slice A3 t.args.length c3, .slice A4 t.res.length c4] 44)) (.cells #[.int .i64 a] 3)
    have hA2 := alloc_at (w.alloc (.cells #[.int .i64 t.kind, .string t.pkg, .string t.name, .slice A3 t.args.length c3, .slice A4 t.res.length c4] 44)) (.cells #[.int .i64 a] 3)
    rw [World.size_alloc] at hA2
    have hk : ((w.alloc (.cells #[.int .i64 t.kind, .string t.pkg, .string t.name, .slice A3 t.args.length c3, .slice A4 t.res.length c4] 44)).alloc (.cells #[.int .i64 a] 3)).cell? ⟨w.heap.size + 1, 0, none⟩ = some (.int .i64 a) := (cell_at hA2 0).trans rfl
    have HK := Lib.hid hk; have HW := Lib.hid hw2; have HA := Lib.hid hA1; clear hk hw2 hA1 hA2
    have O_args := Lib.hid o_args; clear o_args
    have O_res := Lib.hid o_res; clear o_res
    have Q0 := Lib.hid q0; clear q0
    have Q1 := Lib.hid q1; clear q1
    have Q2 := Lib.hid q2; clear q2
    have Q3 := Lib.hid q3; clear q3
    have Q4 := Lib.hid q4; clear q4
    clear hv
    cases z0 : fitTyL t.args (a + 1) with
    | false =>
      have Z0 := Lib.hid z0; clear z0
      go_enter Try.func51, Try.ntmps51
      go_wp2_with fail
      refine (containsTy_any _ 79 _ enters79 t.args A3 c3 (Q3.out.sub (Below.sub HW.out)) _ (fun x hx => clos79_any _ (w.heap.size + 1) a ha ha1 HK.out x (O_args.out x hx ha1)) true ((fitTyL_any t.args (a + 1)).trans (by rw [Z0.out]; rfl))).mono ?_
      rintro e w1 ⟨rfl, hb1⟩
      have B1 := Lib.hid (HW.out.trans (hb1.mono (HW.out.size)))
      have k1 := Below.sub hb1 _ _ HK.out
      have d1_0 := Below.sub hb1 _ _ ((cell_at HA.out 0).trans rfl : _ = some (.int .i64 t.kind))
      have d1_1 := Below.sub hb1 _ _ ((cell_at HA.out 1).trans rfl : _ = some (.string t.pkg))
      have d1_2 := Below.sub hb1 _ _ ((cell_at HA.out 2).trans rfl : _ = some (.string t.name))
      have d1_3 := Below.sub hb1 _ _ ((cell_at HA.out 3).trans rfl : _ = some (.slice A3 t.args.length c3))
      have d1_4 := Below.sub hb1 _ _ ((cell_at HA.out 4).trans rfl : _ = some (.slice A4 t.res.length c4))
      have K1 := Lib.hid k1; clear k1 hb1
      go_wp2_with fail
      refine bodyPost_ret (results_tmp rfl _ _ _) rfl ⟨?_, B1.out⟩
      rw [fitTy_eq, decide_eq_true ha1, Z0.out]; rfl
    | true =>
      have Z0 := Lib.hid z0; clear z0
      cases z1 : fitTyL t.res (a + 1) with
      | false =>
        have Z1 := Lib.hid z1; clear z1
        go_enter Try.func51, Try.ntmps51
        go_wp2_with fail
        refine (containsTy_any _ 79 _ enters79 t.args A3 c3 (Q3.out.sub (Below.sub HW.out)) _ (fun x hx => clos79_any _ (w.heap.size + 1) a ha ha1 HK.out x (O_args.out x hx ha1)) false ((fitTyL_any t.args (a + 1)).trans (by rw [Z0.out]; rfl))).mono ?_
        rintro e w1 ⟨rfl, hb1⟩
        have B1 := Lib.hid (HW.out.trans (hb1.mono (HW.out.size)))
        have k1 := Below.sub hb1 _ _ HK.out
        have d1_0 := Below.sub hb1 _ _ ((cell_at HA.out 0).trans rfl : _ = some (.int .i64 t.kind))
        have d1_1 := Below.sub hb1 _ _ ((cell_at HA.out 1).trans rfl : _ = some (.string t.pkg))
        have d1_2 := Below.sub hb1 _ _ ((cell_at HA.out 2).trans rfl : _ = some (.string t.name))
        have d1_3 := Below.sub hb1 _ _ ((cell_at HA.out 3).trans rfl : _ = some (.slice A3 t.args.length c3))
        have d1_4 := Below.sub hb1 _ _ ((cell_at HA.out 4).trans rfl : _ = some (.slice A4 t.res.length c4))
        have K1 := Lib.hid k1; clear k1 hb1
        go_wp2_with fail
        refine (containsTy_any _ 80 _ enters80 t.res A4 c4 (Q4.out.sub (Below.sub B1.out)) _ (fun x hx => clos80_any _ (w.heap.size + 1) a ha ha1 K1.out x (O_res.out x hx ha1)) true ((fitTyL_any t.res (a + 1)).trans (by rw [Z1.out]; rfl))).mono ?_
        rintro e w2 ⟨rfl, hb2⟩
        have B2 := Lib.hid (B1.out.trans (hb2.mono (B1.out.size)))
        have k2 := Below.sub hb2 _ _ K1.out
        have d2_0 := Below.sub hb2 _ _ d1_0
        have d2_1 := Below.sub hb2 _ _ d1_1
        have d2_2 := Below.sub hb2 _ _ d1_2
        have d2_3 := Below.sub hb2 _ _ d1_3
        have d2_4 := Below.sub hb2 _ _ d1_4
        have K2 := Lib.hid k2; clear k2 hb2 d1_0 d1_1 d1_2 d1_3 d1_4
        go_wp2_with fail
        refine bodyPost_ret (results_tmp rfl _ _ _) rfl ⟨?_, B2.out⟩
        rw [fitTy_eq, decide_eq_true ha1, Z0.out, Z1.out]; rfl
      | true =>
        have Z1 := Lib.hid z1; clear z1
        go_enter Try.func51, Try.ntmps51
        go_wp2_with fail
        refine (containsTy_any _ 79 _ enters79 t.args A3 c3 (Q3.out.sub (Below.sub HW.out)) _ (fun x hx => clos79_any _ (w.heap.size + 1) a ha ha1 HK.out x (O_args.out x hx ha1)) false ((fitTyL_any t.args (a + 1)).trans (by rw [Z0.out]; rfl))).mono ?_
        rintro e w1 ⟨rfl, hb1⟩
        have B1 := Lib.hid (HW.out.trans (hb1.mono (HW.out.size)))
        have k1 := Below.sub hb1 _ _ HK.out
        have d1_0 := Below.sub hb1 _ _ ((cell_at HA.out 0).trans rfl : _ = some (.int .i64 t.kind))
        have d1_1 := Below.sub hb1 _ _ ((cell_at HA.out 1).trans rfl : _ = some (.string t.pkg))
        have d1_2 := Below.sub hb1 _ _ ((cell_at HA.out 2).trans rfl : _ = some (.string t.name))
        have d1_3 := Below.sub hb1 _ _ ((cell_at HA.out 3).trans rfl : _ = some (.slice A3 t.args.length c3))
        have d1_4 := Below.sub hb1 _ _ ((cell_at HA.out 4).trans rfl : _ = some (.slice A4 t.res.length c4))
        have K1 := Lib.hid k1; clear k1 hb1
        go_wp2_with fail
        refine (containsTy_any _ 80 _ enters80 t.res A4 c4 (Q4.out.sub (Below.sub B1.out)) _ (fun x hx => clos80_any _ (w.heap.size + 1) a ha ha1 K1.out x (O_res.out x hx ha1)) false ((fitTyL_any t.res (a + 1)).trans (by rw [Z1.out]; rfl))).mono ?_
        rintro e w2 ⟨rfl, hb2⟩
        have B2 := Lib.hid (B1.out.trans (hb2.mono (B1.out.size)))
        have k2 := Below.sub hb2 _ _ K1.out
        have d2_0 := Below.sub hb2 _ _ d1_0
        have d2_1 := Below.sub hb2 _ _ d1_1
        have d2_2 := Below.sub hb2 _ _ d1_2
        have d2_3 := Below.sub hb2 _ _ d1_3
        have d2_4 := Below.sub hb2 _ _ d1_4
        have K2 := Lib.hid k2; clear k2 hb2 d1_0 d1_1 d1_2 d1_3 d1_4
        go_wp2_with fail
        refine bodyPost_ret (results_tmp rfl _ _ _) rfl ⟨?_, B2.out⟩
        rw [fitTy_eq, decide_eq_true ha1, Z0.out, Z1.out]; rfl
  · have hz : fitTy t a = false := by rw [fitTy_eq, decide_eq_false ha1]; rfl
    have HZ := Lib.hid hz
    clear hz hv q0 q1 q2 q3 q4 o_args o_res
    go_enter Try.func51, Try.ntmps51
    go_wp2_with fail
    refine bodyPost_ret (results_tmp rfl _ _ _) rfl ⟨by rw [HZ.out]; rfl, ((Below.refl _ w).alloc (Nat.le_refl _) _).alloc (by simp) _⟩

set_option maxRecDepth 100000 in
set_option maxHeartbeats 800000 in
theorem fitsEx_any (t : Ex) (a : Int) (ha : 0 ≤ a) (ha2 : a ≤ 101) (o_kids : ∀ x ∈ t.kids, a ≤ 100 → FitEx x (a + 1)) : FitEx t a := by
  intro w vs hv
  obtain ⟨A3, c3, rfl, q0, q1, q2, q3⟩ := Ex.opn hv
  by_cases ha1 : a ≤ 100
  · have hw2 : Below w.heap.size w ((w.alloc (.cells #[.int .i64 t.op, .int .i64 t.n, .string t.name, .slice A3 t.kids.length c3] 132)).alloc (.cells #[.int .i64 a] 3)) := ((Below.refl _ w).alloc (Nat.le_refl _) _).alloc (by simp) _
    have hA1 := alloc_old (alloc_at w (.cells #[.int .i64 t.op, .int .i64 t.n, .string t.name, .slice A3 t.kids.length c3] 132)) (.cells #[.int .i64 a] 3)
    have hA2 := alloc_at (w.alloc (.cells #[.int .i64 t.op, .int .i64 t.n, .string t.name, .slice A3 t.kids.length c3] 132)) (.cells #[.int .i64 a] 3)
    rw [World.size_alloc] at hA2
    have hk : ((w.alloc (.cells #[.int .i64 t.op, .int .i64 t.n, .string t.name, .slice A3 t.kids.length c3] 132)).alloc (.cells #[.int .i64 a] 3)).cell? ⟨w.heap.size + 1, 0, none⟩ = some (.int .i64 a) := (cell_at hA2 0).trans rfl
    have HK := Lib.hid hk; have HW := Lib.hid hw2; have HA := Lib.hid hA1; clear hk hw2 hA1 hA2
    have O_kids := Lib.hid o_kids; clear o_kids
    have Q0 := Lib.hid q0; clear q0
    have Q1 := Lib.hid q1; clear q1
    have Q2 := Lib.hid q2; clear q2
    have Q3 := Lib.hid q3; clear q3
    clear hv
    cases z0 : fitExL t.kids (a + 1) with
    | false =>
      have Z0 := Lib.hid z0; clear z0
      go_enter Try.func86, Try.ntmps86
      go_wp2_with fail
      refine (containsEx_any _ 105 _ enters105 t.kids A3 c3 (Q3.out.sub (Below.sub HW.out)) _ (fun x hx => clos105_any _ (w.heap.size + 1) a ha ha1 HK.out x (O_kids.out x hx ha1)) true ((fitExL_any t.kids (a + 1)).trans (by rw [Z0.out]; rfl))).mono ?_
      rintro e w1 ⟨rfl, hb1⟩
      have B1 := Lib.hid (HW.out.trans (hb1.mono (HW.out.size)))
      have k1 := Below.sub hb1 _ _ HK.out
      have d1_0 := Below.sub hb1 _ _ ((cell_at HA.out 0).trans rfl : _ = some (.int .i64 t.op))
      have d1_1 := Below.sub hb1 _ _ ((cell_at HA.out 1).trans rfl : _ = some (.int .i64 t.n))
      have d1_2 := Below.sub hb1 _ _ ((cell_at HA.out 2).trans rfl : _ = some (.string t.name))
      have d1_3 := Below.sub hb1 _ _ ((cell_at HA.out 3).trans rfl : _ = some (.slice A3 t.kids.length c3))
      have K1 := Lib.hid k1; clear k1 hb1
      go_wp2_with fail
      refine bodyPost_ret (results_tmp rfl _ _ _) rfl ⟨?_, B1.out⟩
      rw [fitEx_eq, decide_eq_true ha1, Z0.out]; rfl
    | true =>
      have Z0 := Lib.hid z0; clear z0
      go_enter Try.func86, Try.ntmps86
      go_wp2_with fail
      refine (containsEx_any _ 105 _ enters105 t.kids A3 c3 (Q3.out.sub (Below.sub HW.out)) _ (fun x hx => clos105_any _ (w.heap.size + 1) a ha ha1 HK.out x (O_kids.out x hx ha1)) false ((fitExL_any t.kids (a + 1)).trans (by rw [Z0.out]; rfl))).mono ?_
      rintro e w1 ⟨rfl, hb1⟩
      have B1 := Lib.hid (HW.out.trans (hb1.mono (HW.out.size)))
      have k1 := Below.sub hb1 _ _ HK.out
      have d1_0 := Below.sub hb1 _ _ ((cell_at HA.out 0).trans rfl : _ = some (.int .i64 t.op))
      have d1_1 := Below.sub hb1 _ _ ((cell_at HA.out 1).trans rfl : _ = some (.int .i64 t.n))
      have d1_2 := Below.sub hb1 _ _ ((cell_at HA.out 2).trans rfl : _ = some (.string t.name))
      have d1_3 := Below.sub hb1 _ _ ((cell_at HA.out 3).trans rfl : _ = some (.slice A3 t.kids.length c3))
      have K1 := Lib.hid k1; clear k1 hb1
      go_wp2_with fail
      refine bodyPost_ret (results_tmp rfl _ _ _) rfl ⟨?_, B1.out⟩
      rw [fitEx_eq, decide_eq_true ha1, Z0.out]; rfl
  · have hz : fitEx t a = false := by rw [fitEx_eq, decide_eq_false ha1]; rfl
    have HZ := Lib.hid hz
    clear hz hv q0 q1 q2 q3 o_kids
    go_enter Try.func86, Try.ntmps86
    go_wp2_with fail
    refine bodyPost_ret (results_tmp rfl _ _ _) rfl ⟨by rw [HZ.out]; rfl, ((Below.refl _ w).alloc (Nat.le_refl _) _).alloc (by simp) _⟩

set_option maxRecDepth 100000 in
set_option maxHeartbeats 800000 in
theorem fitsSt_any (t : St) (a : Int) (ha : 0 ≤ a) (ha2 : a ≤ 101) (o_exprs : ∀ x ∈ t.exprs, a ≤ 100 → FitEx x (a + 1)) (o_body : ∀ x ∈ t.body, a ≤ 100 → FitSt x (a + 1)) (o_els : ∀ x ∈ t.els, a ≤ 100 → FitSt x (a + 1)) : FitSt t a := by
  intro w vs hv
  obtain ⟨A2, c2, A3, c3, A4, c4, rfl, q0, q1, q2, q3, q4⟩ := St.opn hv
  by_cases ha1 : a ≤ 100
  · have hw2 : Below w.heap.size w ((w.alloc (.cells #[.int .i64 t.op, .int .i64 t.n, .slice A2 t.exprs.length c2, .slice A3 t.body.length c3, .slice A4 t.els.length c4] 101)).alloc (.cells #[.int .i64 a] 3)) := ((Below.refl _ w).alloc (Nat.le_refl _) _).alloc (by simp) _
    have hA1 := alloc_old (alloc_at w (.cells #[.int .i64 t.op, .int .i64 t.n, .slice A2 t.exprs.length c2, .slice A3 t.body.length c3, .slice A4 t.els.length c4] 101)) (.cells #[.int .i64 a] 3)
    have hA2 := alloc_at (w.alloc (.cells #[.int .i64 t.op, .int .i64 t.n, .slice A2 t.exprs.length c2, .slice A3 t.body.length c3, .slice A4 t.els.length c4] 101)) (.cells #[.int .i64 a] 3)
    rw [World.size_alloc] at hA2
    have hk : ((w.alloc (.cells #[.int .i64 t.op, .int .i64 t.n, .slice A2 t.exprs.length c2, .slice A3 t.body.length c3, .slice A4 t.els.length c4] 101)).alloc (.cells #[.int .i64 a] 3)).cell? ⟨w.heap.size + 1, 0, none⟩ = some (.int .i64 a) := (cell_at hA2 0).trans rfl
    have HK := Lib.hid hk; have HW := Lib.hid hw2; have HA := Lib.hid hA1; clear hk hw2 hA1 hA2
    have O_exprs := Lib.hid o_exprs; clear o_exprs
    have O_body := Lib.hid o_body; clear o_body
    have O_els := Lib.hid o_els; clear o_els
    have Q0 := Lib.hid q0; clear q0
    have Q1 := Lib.hid q1; clear q1
    have Q2 := Lib.hid q2; clear q2
    have Q3 := Lib.hid q3; clear q3
    have Q4 := Lib.hid q4; clear q4
    clear hv
    cases z0 : fitExL t.exprs (a + 1) with
    | false =>
      have Z0 := Lib.hid z0; clear z0
      go_enter Try.func56, Try.ntmps56
      go_wp2_with fail
      refine (containsEx_any _ 85 _ enters85 t.exprs A2 c2 (Q2.out.sub (Below.sub HW.out)) _ (fun x hx => clos85_any _ (w.heap.size + 1) a ha ha1 HK.out x (O_exprs.out x hx ha1)) true ((fitExL_any t.exprs (a + 1)).trans (by rw [Z0.out]; rfl))).mono ?_
      rintro e w1 ⟨rfl, hb1⟩
      have B1 := Lib.hid (HW.out.trans (hb1.mono (HW.out.size)))
      have k1 := Below.sub hb1 _ _ HK.out
      have d1_0 := Below.sub hb1 _ _ ((cell_at HA.out 0).trans rfl : _ = some (.int .i64 t.op))
      have d1_1 := Below.sub hb1 _ _ ((cell_at HA.out 1).trans rfl : _ = some (.int .i64 t.n))
      have d1_2 := Below.sub hb1 _ _ ((cell_at HA.out 2).trans rfl : _ = some (.slice A2 t.exprs.length c2))
      have d1_3 := Below.sub hb1 _ _ ((cell_at HA.out 3).trans rfl : _ = some (.slice A3 t.body.length c3))
      have d1_4 := Below.sub hb1 _ _ ((cell_at HA.out 4).trans rfl : _ = some (.slice A4 t.els.length c4))
      have K1 := Lib.hid k1; clear k1 hb1
      go_wp2_with fail
      refine bodyPost_ret (results_tmp rfl _ _ _) rfl ⟨?_, B1.out⟩
      rw [fitSt_eq, decide_eq_true ha1, Z0.out]; rfl
    | true =>
      have Z0 := Lib.hid z0; clear z0
      cases z1 : fitStL t.body (a + 1) with
      | false =>
        have Z1 := Lib.hid z1; clear z1
        go_enter Try.func56, Try.ntmps56
        go_wp2_with fail
        refine (containsEx_any _ 85 _ enters85 t.exprs A2 c2 (Q2.out.sub (Below.sub HW.out)) _ (fun x hx => clos85_any _ (w.heap.size + 1) a ha ha1 HK.out x (O_exprs.out x hx ha1)) false ((fitExL_any t.exprs (a + 1)).trans (by rw [Z0.out]; rfl))).mono ?_
        rintro e w1 ⟨rfl, hb1⟩
        have B1 := Lib.hid (HW.out.trans (hb1.mono (HW.out.size)))
        have k1 := Below.sub hb1 _ _ HK.out
        have d1_0 := Below.sub hb1 _ _ ((cell_at HA.out 0).trans rfl : _ = some (.int .i64 t.op))
        have d1_1 := Below.sub hb1 _ _ ((cell_at HA.out 1).trans rfl : _ = some (.int .i64 t.n))
        have d1_2 := Below.sub hb1 _ _ ((cell_at HA.out 2).trans rfl : _ = some (.slice A2 t.exprs.length c2))
        have d1_3 := Below.sub hb1 _ _ ((cell_at HA.out 3).trans rfl : _ = some (.slice A3 t.body.length c3))
        have d1_4 := Below.sub hb1 _ _ ((cell_at HA.out 4).trans rfl : _ = some (.slice A4 t.els.length c4))
        have K1 := Lib.hid k1; clear k1 hb1
        go_wp2_with fail
        refine (containsSt_any _ 83 _ enters83 t.body A3 c3 (Q3.out.sub (Below.sub B1.out)) _ (fun x hx => clos83_any _ (w.heap.size + 1) a ha ha1 K1.out x (O_body.out x hx ha1)) true ((fitStL_any t.body (a + 1)).trans (by rw [Z1.out]; rfl))).mono ?_
        rintro e w2 ⟨rfl, hb2⟩
        have B2 := Lib.hid (B1.out.trans (hb2.mono (B1.out.size)))
        have k2 := Below.sub hb2 _ _ K1.out
        have d2_0 := Below.sub hb2 _ _ d1_0
        have d2_1 := Below.sub hb2 _ _ d1_1
        have d2_2 := Below.sub hb2 _ _ d1_2
        have d2_3 := Below.sub hb2 _ _ d1_3
        have d2_4 := Below.sub hb2 _ _ d1_4
        have K2 := Lib.hid k2; clear k2 hb2 d1_0 d1_1 d1_2 d1_3 d1_4
        go_wp2_with fail
        refine bodyPost_ret (results_tmp rfl _ _ _) rfl ⟨?_, B2.out⟩
        rw [fitSt_eq, decide_eq_true ha1, Z0.out, Z1.out]; rfl
      | true =>
        have Z1 := Lib.hid z1; clear z1
        cases z2 : fitStL t.els (a + 1) with
        | false =>
          have Z2 := Lib.hid z2; clear z2
          go_enter Try.func56, Try.ntmps56
          go_wp2_with fail
          refine (containsEx_any _ 85 _ enters85 t.exprs A2 c2 (Q2.out.sub (Below.sub HW.out)) _ (fun x hx => clos85_any _ (w.heap.size + 1) a ha ha1 HK.out x (O_exprs.out x hx ha1)) false ((fitExL_any t.exprs (a + 1)).trans (by rw [Z0.out]; rfl))).mono ?_
          rintro e w1 ⟨rfl, hb1⟩
          have B1 := Lib.hid (HW.out.trans (hb1.mono (HW.out.size)))
          have k1 := Below.sub hb1 _ _ HK.out
          have d1_0 := Below.sub hb1 _ _ ((cell_at HA.out 0).trans rfl : _ = some (.int .i64 t.op))
          have d1_1 := Below.sub hb1 _ _ ((cell_at HA.out 1).trans rfl : _ = some (.int .i64 t.n))
          have d1_2 := Below.sub hb1 _ _ ((cell_at HA.out 2).trans rfl : _ = some (.slice A2 t.exprs.length c2))
          have d1_3 := Below.sub hb1 _ _ ((cell_at HA.out 3).trans rfl : _ = some (.slice A3 t.body.length c3))
          have d1_4 := Below.sub hb1 _ _ ((cell_at HA.out 4).trans rfl : _ = some (.slice A4 t.els.length c4))
          have K1 := Lib.hid k1; clear k1 hb1
          go_wp2_with fail
          refine (containsSt_any _ 83 _ enters83 t.body A3 c3 (Q3.out.sub (Below.sub B1.out)) _ (fun x hx => clos83_any _ (w.heap.size + 1) a ha ha1 K1.out x (O_body.out x hx ha1)) false ((fitStL_any t.body (a + 1)).trans (by rw [Z1.out]; rfl))).mono ?_
          rintro e w2 ⟨rfl, hb2⟩
          have B2 := Lib.hid (B1.out.trans (hb2.mono (B1.out.size)))
          have k2 := Below.sub hb2 _ _ K1.out
          have d2_0 := Below.sub hb2 _ _ d1_0
          have d2_1 := Below.sub hb2 _ _ d1_1
          have d2_2 := Below.sub hb2 _ _ d1_2
          have d2_3 := Below.sub hb2 _ _ d1_3
          have d2_4 := Below.sub hb2 _ _ d1_4
          have K2 := Lib.hid k2; clear k2 hb2 d1_0 d1_1 d1_2 d1_3 d1_4
          go_wp2_with fail
          refine (containsSt_any _ 83 _ enters83 t.els A4 c4 (Q4.out.sub (Below.sub B2.out)) _ (fun x hx => clos83_any _ (w.heap.size + 1) a ha ha1 K2.out x (O_els.out x hx ha1)) true ((fitStL_any t.els (a + 1)).trans (by rw [Z2.out]; rfl))).mono ?_
          rintro e w3 ⟨rfl, hb3⟩
          have B3 := Lib.hid (B2.out.trans (hb3.mono (B2.out.size)))
          have k3 := Below.sub hb3 _ _ K2.out
          have d3_0 := Below.sub hb3 _ _ d2_0
          have d3_1 := Below.sub hb3 _ _ d2_1
          have d3_2 := Below.sub hb3 _ _ d2_2
          have d3_3 := Below.sub hb3 _ _ d2_3
          have d3_4 := Below.sub hb3 _ _ d2_4
          have K3 := Lib.hid k3; clear k3 hb3 d2_0 d2_1 d2_2 d2_3 d2_4
          go_wp2_with fail
          refine bodyPost_ret (results_tmp rfl _ _ _) rfl ⟨?_, B3.out⟩
          rw [fitSt_eq, decide_eq_true ha1, Z0.out, Z1.out, Z2.out]; rfl
        | true =>
          have Z2 := Lib.hid z2; clear z2
          go_enter Try.func56, Try.ntmps56
          go_wp2_with fail
          refine (containsEx_any _ 85 _ enters85 t.exprs A2 c2 (Q2.out.sub (Below.sub HW.out)) _ (fun x hx => clos85_any _ (w.heap.size + 1) a ha ha1 HK.out x (O_exprs.out x hx ha1)) false ((fitExL_any t.exprs (a + 1)).trans (by rw [Z0.out]; rfl))).mono ?_
          rintro e w1 ⟨rfl, hb1⟩
          have B1 := Lib.hid (HW.out.trans (hb1.mono (HW.out.size)))
          have k1 := Below.sub hb1 _ _ HK.out
          have d1_0 := Below.sub hb1 _ _ ((cell_at HA.out 0).trans rfl : _ = some (.int .i64 t.op))
          have d1_1 := Below.sub hb1 _ _ ((cell_at HA.out 1).trans rfl : _ = some (.int .i64 t.n))
          have d1_2 := Below.sub hb1 _ _ ((cell_at HA.out 2).trans rfl : _ = some (.slice A2 t.exprs.length c2))
          have d1_3 := Below.sub hb1 _ _ ((cell_at HA.out 3).trans rfl : _ = some (.slice A3 t.body.length c3))
          have d1_4 := Below.sub hb1 _ _ ((cell_at HA.out 4).trans rfl : _ = some (.slice A4 t.els.length c4))
          have K1 := Lib.hid k1; clear k1 hb1
          go_wp2_with fail
          refine (containsSt_any _ 83 _ enters83 t.body A3 c3 (Q3.out.sub (Below.sub B1.out)) _ (fun x hx => clos83_any _ (w.heap.size + 1) a ha ha1 K1.out x (O_body.out x hx ha1)) false ((fitStL_any t.body (a + 1)).trans (by rw [Z1.out]; rfl))).mono ?_
          rintro e w2 ⟨rfl, hb2⟩
          have B2 := Lib.hid (B1.out.trans (hb2.mono (B1.out.size)))
          have k2 := Below.sub hb2 _ _ K1.out
          have d2_0 := Below.sub hb2 _ _ d1_0
          have d2_1 := Below.sub hb2 _ _ d1_1
          have d2_2 := Below.sub hb2 _ _ d1_2
          have d2_3 := Below.sub hb2 _ _ d1_3
          have d2_4 := Below.sub hb2 _ _ d1_4
          have K2 := Lib.hid k2; clear k2 hb2 d1_0 d1_1 d1_2 d1_3 d1_4
          go_wp2_with fail
          refine (containsSt_any _ 83 _ enters83 t.els A4 c4 (Q4.out.sub (Below.sub B2.out)) _ (fun x hx => clos83_any _ (w.heap.size + 1) a ha ha1 K2.out x (O_els.out x hx ha1)) false ((fitStL_any t.els (a + 1)).trans (by rw [Z2.out]; rfl))).mono ?_
          rintro e w3 ⟨rfl, hb3⟩
          have B3 := Lib.hid (B2.out.trans (hb3.mono (B2.out.size)))
          have k3 := Below.sub hb3 _ _ K2.out
          have d3_0 := Below.sub hb3 _ _ d2_0
          have d3_1 := Below.sub hb3 _ _ d2_1
          have d3_2 := Below.sub hb3 _ _ d2_2
          have d3_3 := Below.sub hb3 _ _ d2_3
          have d3_4 := Below.sub hb3 _ _ d2_4
          have K3 := Lib.hid k3; clear k3 hb3 d2_0 d2_1 d2_2 d2_3 d2_4
          go_wp2_with fail
          refine bodyPost_ret (results_tmp rfl _ _ _) rfl ⟨?_, B3.out⟩
          rw [fitSt_eq, decide_eq_true ha1, Z0.out, Z1.out, Z2.out]; rfl
  · have hz : fitSt t a = false := by rw [fitSt_eq, decide_eq_false ha1]; rfl
    have HZ := Lib.hid hz
    clear hz hv q0 q1 q2 q3 q4 o_exprs o_body o_els
    go_enter Try.func56, Try.ntmps56
    go_wp2_with fail
    refine bodyPost_ret (results_tmp rfl _ _ _) rfl ⟨by rw [HZ.out]; rfl, ((Below.refl _ w).alloc (Nat.le_refl _) _).alloc (by simp) _⟩

end Go.Proofs.Ytghnaaahkbnhlaa
