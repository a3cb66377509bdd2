/-
  each, in free memory.
-/
import Derived.Test.YtiecbgclkdlpkaaNewF
import Derived.Test.YtiecbgclkdlpkaaKEach
namespace Go.Proofs.Ytiecbgclkdlpkaa.fr
open Go.RowKit
set_option linter.unusedVariables false
set_option linter.unusedSimpArgs false

/-- What a function makes of one of them. -/
def OneTy (w0 : World) (f : Nat) (cap : Array Value) (G : Ty → Ty) (t : Ty) : Prop := ∀ (w : World) (vs : List Value), Below w0.heap.size w0 w → Vals w t.d vs → Calls Try.prog f (#[.agg vs.toArray] ++ cap) w (NewV w Ty.d (G t))
set_option maxRecDepth 100000 in
set_option maxHeartbeats 1600000 in
theorem eachTy_any (w : World) (l : List Ty) (A : Option Addr) (c : Nat) (hl : SL w 5 (Ty.ds l) l.length A c) (hn : l.length ≤ 1000000) (f : Nat) (cap : Array Value) (G : Ty → Ty) (hf : Enters f) (hone : ∀ t ∈ l, OneTy w f cap G t) :
    Calls Try.prog 53 #[.slice A l.length c, .func (.func f) #[] cap] w (NewL w Ty.d 5 (l.map G)) := by
  have HL := Lib.hid hl; have HO := Lib.hid hone; clear hl hone
  have HF := hf; unfold Enters at hf; have HE := Lib.hid HF; clear HF
  go_enter Try.func53, Try.ntmps53
  go_wp2_with fail
  go_loopw [5, 10] (fun v i wr => ∃ (k : Nat) (segs : List (List Value)), k ≤ l.length ∧ i = .int .i64 k ∧ EachRow w wr Ty.d 5 26 v ((l.take k).map G) segs) (fun v i _ => l.length - (intOf i).toNat)
  case atStart => exact ⟨0, [], Nat.zero_le _, rfl, EachRow.start w _ _ _⟩
  case round =>
    obtain ⟨k, segs, hk, rfl, hw⟩ := hrel
    obtain ⟨A', c', rfl⟩ := own_slice hw.own
    have HLT := Lib.hid (show ((l.take k).map G).length = k by simp; omega)
    by_cases hlt : k < l.length
    · obtain ⟨b, o, hA, A3, c3, A4, c4, e0, e1, e2, e3, e4, q0, q1, q2, q3, q4⟩ := Ty.at HL.out.2.2.2 k hlt
      subst hA
      have hsub := Below.sub hw.chg.below
      have HVT := Lib.hid ((Ty.shut (w := w) (t := l[k]) q0 q1 q2 q3 q4).sub hsub)
      have f0 := hsub _ _ e0; have f1 := hsub _ _ e1; have f2 := hsub _ _ e2; have f3 := hsub _ _ e3; have f4 := hsub _ _ e4
      have HK := Lib.hid (List.getElem_mem hlt)
      have HSN := Lib.hid (map_take_snoc G l k hlt)
      have HW := Lib.hid hw
      have hAl := (Below.refl wr.heap.size wr).alloc (Nat.le_refl _) (.cells #[.int .i64 l[k].kind, .string l[k].pkg, .string l[k].name, .slice A3 l[k].args.length c3, .slice A4 l[k].res.length c4] 26)
      have HAL := Lib.hid hAl
      have HBW := Lib.hid (show Below w.heap.size w (wr.alloc (.cells #[.int .i64 l[k].kind, .string l[k].pkg, .string l[k].name, .slice A3 l[k].args.length c3, .slice A4 l[k].res.length c4] 26)) from hw.chg.below.trans (hAl.mono hw.chg.size))
      clear hsub hw hAl e0 e1 e2 e3 e4 q0 q1 q2 q3 q4
      have hlt' : (k : Int) < l.length := by omega
      go_wp2_with fail
      refine (HO.out _ HK.out _ _ HBW.out (HVT.out.sub (Below.sub HAL.out))).mono ?_
      rintro e w2 ⟨vs, rfl, hv, hb2⟩
      have HV := Lib.hid (hv.sub (new_mono (n := wr.heap.size) (by simp) _ _))
      obtain ⟨B3, d3, B4, d4, rfl, y0, y1, y2, y3, y4⟩ := Ty.opn hv
      have HC2 := Lib.hid ((below_none HAL.out).trans (below_none hb2) (fun _ _ q => q))
      clear hv hb2 y0 y1 y2 y3 y4
      have hA : Chg (fun _ => False) w2 (w2.alloc (.cells #[.int .i64 (G l[k]).kind, .string (G l[k]).pkg, .string (G l[k]).name, .slice B3 (G l[k]).args.length d3, .slice B4 (G l[k]).res.length d4] 26)) := (Chg.refl _ _).alloc _
      have HOA := Lib.hid (own_grows hA (own_grows HC2.out HW.out.own))
      rw [HLT.out] at HOA
      have HSZ := Lib.hid (show w.heap.size ≤ (w2.alloc (.cells #[.int .i64 (G l[k]).kind, .string (G l[k]).pkg, .string (G l[k]).name, .slice B3 (G l[k]).args.length d3, .slice B4 (G l[k]).res.length d4] 26)).heap.size from Nat.le_trans (Nat.le_trans HW.out.chg.size HC2.out.size) hA.size)
      have HNE := Lib.hid (show ∀ (j : Nat) (u : Value), ([.int .i64 (G l[k]).kind, .string (G l[k]).pkg, .string (G l[k]).name, .slice B3 (G l[k]).args.length d3, .slice B4 (G l[k]).res.length d4] : List Value)[j]? = some u → (w2.alloc (.cells #[.int .i64 (G l[k]).kind, .string (G l[k]).pkg, .string (G l[k]).name, .slice B3 (G l[k]).args.length d3, .slice B4 (G l[k]).res.length d4] 26)).cell? ⟨w2.heap.size, j, none⟩ = some u from fun j u q => by rw [cell_at (alloc_at w2 _)]; simpa using q)
      have HONE := Lib.hid (show ∀ u ∈ ([.int .i64 (G l[k]).kind, .string (G l[k]).pkg, .string (G l[k]).name, .slice B3 (G l[k]).args.length d3, .slice B4 (G l[k]).res.length d4] : List Value), u.oneCell' = true from fun u q => by simp at q; rcases q with rfl | rfl | rfl | rfl | rfl <;> rfl)
      have HLN := Lib.hid (show (k + 1) * 88 ≤ 140737488355328 by omega)
      have HLM := Lib.hid (show k + 1 ≤ maxLen by unfold maxLen; omega)
      have HAA := Lib.hid hA
      clear hA
      rw [HLT.out]
      go_wp2_with (at_builtin; go_loud (refine wpList_append_rec _ rfl _ _ 24 rfl w.heap.size 26 (.agg #[.int .i64 0, .string ⟨#[]⟩, .string ⟨#[]⟩, .slice none 0 0, .slice none 0 0]) 5 88 Try.infnTy Try.underlying24 rfl (by omega) (.slice A' k c') k segs.flatten rfl HOA.out w2.heap.size 1 ([.int .i64 (G l[k]).kind, .string (G l[k]).pkg, .string (G l[k]).name, .slice B3 (G l[k]).args.length d3, .slice B4 (G l[k]).res.length d4]) rfl rfl HNE.out HONE.out HLN.out HLM.out HSZ.out ?_; intro v1 w3 h1 g1 r1; have hw2 := HW.out; rw [HLT.out] at hw2; have HN := Lib.hid (EachRow.next (y := G l[k]) (v' := v1) (w' := w3) HW.out HC2.out HV.out rfl HAA.out (by rw [HLT.out]; exact h1) (by rw [HLT.out]; exact g1) (by rw [HLT.out]; exact r1)); obtain ⟨A1, k1, rfl⟩ := own_slice h1; clear h1 g1 r1 hw2))
      go_roundw
      case rel => exact ⟨k + 1, _, by omega, by go_num, by rw [HSN.out]; exact HN.out⟩
      case measure => simp [intOf]; omega
    · obtain rfl : k = l.length := by omega
      rw [List.take_length] at hw HLT
      have HD := Lib.hid (hw.done (by rw [HLT.out]; unfold Reach; omega))
      have HLL := Lib.hid (show (l.map G).length = l.length from HLT.out)
      rw [HLT.out] at HD
      clear hw
      rw [List.take_length, HLL.out]
      go_wp2_with fail
      refine bodyPost_ret (results_tmp rfl _ _ _) rfl ?_
      exact HD.out
/-- What a function makes of one of them. -/
def OneFld (w0 : World) (f : Nat) (cap : Array Value) (G : Fld → Fld) (t : Fld) : Prop := ∀ (w : World) (vs : List Value), Below w0.heap.size w0 w → Vals w t.d vs → Calls Try.prog f (#[.agg vs.toArray] ++ cap) w (NewV w Fld.d (G t))
set_option maxRecDepth 100000 in
set_option maxHeartbeats 1600000 in
theorem eachFld_any (w : World) (l : List Fld) (A : Option Addr) (c : Nat) (hl : SL w 6 (Fld.ds l) l.length A c) (hn : l.length ≤ 1000000) (f : Nat) (cap : Array Value) (G : Fld → Fld) (hf : Enters f) (hone : ∀ t ∈ l, OneFld w f cap G t) :
    Calls Try.prog 62 #[.slice A l.length c, .func (.func f) #[] cap] w (NewL w Fld.d 6 (l.map G)) := by
  have HL := Lib.hid hl; have HO := Lib.hid hone; clear hl hone
  have HF := hf; unfold Enters at hf; have HE := Lib.hid HF; clear HF
  go_enter Try.func62, Try.ntmps62
  go_wp2_with fail
  go_loopw [5, 10] (fun v i wr => ∃ (k : Nat) (segs : List (List Value)), k ≤ l.length ∧ i = .int .i64 k ∧ EachRow w wr Fld.d 6 56 v ((l.take k).map G) segs) (fun v i _ => l.length - (intOf i).toNat)
  case atStart => exact ⟨0, [], Nat.zero_le _, rfl, EachRow.start w _ _ _⟩
  case round =>
    obtain ⟨k, segs, hk, rfl, hw⟩ := hrel
    obtain ⟨A', c', rfl⟩ := own_slice hw.own
    have HLT := Lib.hid (show ((l.take k).map G).length = k by simp; omega)
    by_cases hlt : k < l.length
    · obtain ⟨b, o, hA, A4, c4, A5, c5, e0, e1, e2, e3, e4, e5, q0, q1, q2, q3, q4, q5⟩ := Fld.at HL.out.2.2.2 k hlt
      subst hA
      have hsub := Below.sub hw.chg.below
      have HVT := Lib.hid ((Fld.shut (w := w) (t := l[k]) q0 q1 q2 q3 q4 q5).sub hsub)
      have f0 := hsub _ _ e0; have f1 := hsub _ _ e1; have f2 := hsub _ _ e2; have f3 := hsub _ _ e3; have f4 := hsub _ _ e4; have f5 := hsub _ _ e5
      have HK := Lib.hid (List.getElem_mem hlt)
      have HSN := Lib.hid (map_take_snoc G l k hlt)
      have HW := Lib.hid hw
      have hAl := (Below.refl wr.heap.size wr).alloc (Nat.le_refl _) (.cells #[.string l[k].name, .int .i64 l[k].type.kind, .string l[k].type.pkg, .string l[k].type.name, .slice A4 l[k].type.args.length c4, .slice A5 l[k].type.res.length c5] 56)
      have HAL := Lib.hid hAl
      have HBW := Lib.hid (show Below w.heap.size w (wr.alloc (.cells #[.string l[k].name, .int .i64 l[k].type.kind, .string l[k].type.pkg, .string l[k].type.name, .slice A4 l[k].type.args.length c4, .slice A5 l[k].type.res.length c5] 56)) from hw.chg.below.trans (hAl.mono hw.chg.size))
      clear hsub hw hAl e0 e1 e2 e3 e4 e5 q0 q1 q2 q3 q4 q5
      have hlt' : (k : Int) < l.length := by omega
      go_wp2_with fail
      refine (HO.out _ HK.out _ _ HBW.out (HVT.out.sub (Below.sub HAL.out))).mono ?_
      rintro e w2 ⟨vs, rfl, hv, hb2⟩
      have HV := Lib.hid (hv.sub (new_mono (n := wr.heap.size) (by simp) _ _))
      obtain ⟨B4, d4, B5, d5, rfl, y0, y1, y2, y3, y4, y5⟩ := Fld.opn hv
      have HC2 := Lib.hid ((below_none HAL.out).trans (below_none hb2) (fun _ _ q => q))
      clear hv hb2 y0 y1 y2 y3 y4 y5
      have hA : Chg (fun _ => False) w2 (w2.alloc (.cells #[.string (G l[k]).name, .int .i64 (G l[k]).type.kind, .string (G l[k]).type.pkg, .string (G l[k]).type.name, .slice B4 (G l[k]).type.args.length d4, .slice B5 (G l[k]).type.res.length d5] 56)) := (Chg.refl _ _).alloc _
      have HOA := Lib.hid (own_grows hA (own_grows HC2.out HW.out.own))
      rw [HLT.out] at HOA
      have HSZ := Lib.hid (show w.heap.size ≤ (w2.alloc (.cells #[.string (G l[k]).name, .int .i64 (G l[k]).type.kind, .string (G l[k]).type.pkg, .string (G l[k]).type.name, .slice B4 (G l[k]).type.args.length d4, .slice B5 (G l[k]).type.res.length d5] 56)).heap.size from Nat.le_trans (Nat.le_trans HW.out.chg.size HC2.out.size) hA.size)
      have HNE := Lib.hid (show ∀ (j : Nat) (u : Value), ([.string (G l[k]).name, .int .i64 (G l[k]).type.kind, .string (G l[k]).type.pkg, .string (G l[k]).type.name, .slice B4 (G l[k]).type.args.length d4, .slice B5 (G l[k]).type.res.length d5] : List Value)[j]? = some u → (w2.alloc (.cells #[.string (G l[k]).name, .int .i64 (G l[k]).type.kind, .string (G l[k]).type.pkg, .string (G l[k]).type.name, .slice B4 (G l[k]).type.args.length d4, .slice B5 (G l[k]).type.res.length d5] 56)).cell? ⟨w2.heap.size, j, none⟩ = some u from fun j u q => by rw [cell_at (alloc_at w2 _)]; simpa using q)
      have HONE := Lib.hid (show ∀ u ∈ ([.string (G l[k]).name, .int .i64 (G l[k]).type.kind, .string (G l[k]).type.pkg, .string (G l[k]).type.name, .slice B4 (G l[k]).type.args.length d4, .slice B5 (G l[k]).type.res.length d5] : List Value), u.oneCell' = true from fun u q => by simp at q; rcases q with rfl | rfl | rfl | rfl | rfl | rfl <;> rfl)
      have HLN := Lib.hid (show (k + 1) * 104 ≤ 140737488355328 by omega)
      have HLM := Lib.hid (show k + 1 ≤ maxLen by unfold maxLen; omega)
      have HAA := Lib.hid hA
      clear hA
      rw [HLT.out]
      go_wp2_with (at_builtin; go_loud (refine wpList_append_rec _ rfl _ _ 23 rfl w.heap.size 56 (.agg #[.string ⟨#[]⟩, .int .i64 0, .string ⟨#[]⟩, .string ⟨#[]⟩, .slice none 0 0, .slice none 0 0]) 6 104 Try.infnFld Try.underlying23 rfl (by omega) (.slice A' k c') k segs.flatten rfl HOA.out w2.heap.size 1 ([.string (G l[k]).name, .int .i64 (G l[k]).type.kind, .string (G l[k]).type.pkg, .string (G l[k]).type.name, .slice B4 (G l[k]).type.args.length d4, .slice B5 (G l[k]).type.res.length d5]) rfl rfl HNE.out HONE.out HLN.out HLM.out HSZ.out ?_; intro v1 w3 h1 g1 r1; have hw2 := HW.out; rw [HLT.out] at hw2; have HN := Lib.hid (EachRow.next (y := G l[k]) (v' := v1) (w' := w3) HW.out HC2.out HV.out rfl HAA.out (by rw [HLT.out]; exact h1) (by rw [HLT.out]; exact g1) (by rw [HLT.out]; exact r1)); obtain ⟨A1, k1, rfl⟩ := own_slice h1; clear h1 g1 r1 hw2))
      go_roundw
      case rel => exact ⟨k + 1, _, by omega, by go_num, by rw [HSN.out]; exact HN.out⟩
      case measure => simp [intOf]; omega
    · obtain rfl : k = l.length := by omega
      rw [List.take_length] at hw HLT
      have HD := Lib.hid (hw.done (by rw [HLT.out]; unfold Reach; omega))
      have HLL := Lib.hid (show (l.map G).length = l.length from HLT.out)
      rw [HLT.out] at HD
      clear hw
      rw [List.take_length, HLL.out]
      go_wp2_with fail
      refine bodyPost_ret (results_tmp rfl _ _ _) rfl ?_
      exact HD.out


/-- A list, made anew, in a row of the call's own: the row itself. -/
def RowL {α : Type} (w : World) (dd : α → List D) (sz : Nat) (xs : List α) (e : Ending) (w' : World) : Prop := ∃ A c et segs, e = .returned (.slice A xs.length c) ∧ EachRow w w' dd sz et (.slice A xs.length c) xs segs
theorem RowL.of {α : Type} {w w' : World} {dd : α → List D} {sz : Nat} {xs : List α} {A : Option Addr} {c : Nat} {et : TypeId} {segs : List (List Value)} (h : EachRow w w' dd sz et (.slice A xs.length c) xs segs) : RowL w dd sz xs (.returned (.slice A xs.length c)) w' := ⟨A, c, et, segs, rfl, h⟩
set_option maxRecDepth 100000 in
set_option maxHeartbeats 1600000 in
theorem eachFldR_any (w : World) (l : List Fld) (A : Option Addr) (c : Nat) (hl : SL w 6 (Fld.ds l) l.length A c) (hn : l.length ≤ 1000000) (f : Nat) (cap : Array Value) (G : Fld → Fld) (hf : Enters f) (hone : ∀ t ∈ l, OneFld w f cap G t) :
    Calls Try.prog 62 #[.slice A l.length c, .func (.func f) #[] cap] w (RowL w Fld.d 6 (l.map G)) := by
  have HL := Lib.hid hl; have HO := Lib.hid hone; clear hl hone
  have HF := hf; unfold Enters at hf; have HE := Lib.hid HF; clear HF
  go_enter Try.func62, Try.ntmps62
  go_wp2_with fail
  go_loopw [5, 10] (fun v i wr => ∃ (k : Nat) (segs : List (List Value)), k ≤ l.length ∧ i = .int .i64 k ∧ EachRow w wr Fld.d 6 56 v ((l.take k).map G) segs) (fun v i _ => l.length - (intOf i).toNat)
  case atStart => exact ⟨0, [], Nat.zero_le _, rfl, EachRow.start w _ _ _⟩
  case round =>
    obtain ⟨k, segs, hk, rfl, hw⟩ := hrel
    obtain ⟨A', c', rfl⟩ := own_slice hw.own
    have HLT := Lib.hid (show ((l.take k).map G).length = k by simp; omega)
    by_cases hlt : k < l.length
    · obtain ⟨b, o, hA, A4, c4, A5, c5, e0, e1, e2, e3, e4, e5, q0, q1, q2, q3, q4, q5⟩ := Fld.at HL.out.2.2.2 k hlt
      subst hA
      have hsub := Below.sub hw.chg.below
      have HVT := Lib.hid ((Fld.shut (w := w) (t := l[k]) q0 q1 q2 q3 q4 q5).sub hsub)
      have f0 := hsub _ _ e0; have f1 := hsub _ _ e1; have f2 := hsub _ _ e2; have f3 := hsub _ _ e3; have f4 := hsub _ _ e4; have f5 := hsub _ _ e5
      have HK := Lib.hid (List.getElem_mem hlt)
      have HSN := Lib.hid (map_take_snoc G l k hlt)
      have HW := Lib.hid hw
      have hAl := (Below.refl wr.heap.size wr).alloc (Nat.le_refl _) (.cells #[.string l[k].name, .int .i64 l[k].type.kind, .string l[k].type.pkg, .string l[k].type.name, .slice A4 l[k].type.args.length c4, .slice A5 l[k].type.res.length c5] 56)
      have HAL := Lib.hid hAl
      have HBW := Lib.hid (show Below w.heap.size w (wr.alloc (.cells #[.string l[k].name, .int .i64 l[k].type.kind, .string l[k].type.pkg, .string l[k].type.name, .slice A4 l[k].type.args.length c4, .slice A5 l[k].type.res.length c5] 56)) from hw.chg.below.trans (hAl.mono hw.chg.size))
      clear hsub hw hAl e0 e1 e2 e3 e4 e5 q0 q1 q2 q3 q4 q5
      have hlt' : (k : Int) < l.length := by omega
      go_wp2_with fail
      refine (HO.out _ HK.out _ _ HBW.out (HVT.out.sub (Below.sub HAL.out))).mono ?_
      rintro e w2 ⟨vs, rfl, hv, hb2⟩
      have HV := Lib.hid (hv.sub (new_mono (n := wr.heap.size) (by simp) _ _))
      obtain ⟨B4, d4, B5, d5, rfl, y0, y1, y2, y3, y4, y5⟩ := Fld.opn hv
      have HC2 := Lib.hid ((below_none HAL.out).trans (below_none hb2) (fun _ _ q => q))
      clear hv hb2 y0 y1 y2 y3 y4 y5
      have hA : Chg (fun _ => False) w2 (w2.alloc (.cells #[.string (G l[k]).name, .int .i64 (G l[k]).type.kind, .string (G l[k]).type.pkg, .string (G l[k]).type.name, .slice B4 (G l[k]).type.args.length d4, .slice B5 (G l[k]).type.res.length d5] 56)) := (Chg.refl _ _).alloc _
      have HOA := Lib.hid (own_grows hA (own_grows HC2.out HW.out.own))
      rw [HLT.out] at HOA
      have HSZ := Lib.hid (show w.heap.size ≤ (w2.alloc (.cells #[.string (G l[k]).name, .int .i64 (G l[k]).type.kind, .string (G l[k]).type.pkg, .string (G l[k]).type.name, .slice B4 (G l[k]).type.args.length d4, .slice B5 (G l[k]).type.res.length d5] 56)).heap.size from Nat.le_trans (Nat.le_trans HW.out.chg.size HC2.out.size) hA.size)
      have HNE := Lib.hid (show ∀ (j : Nat) (u : Value), ([.string (G l[k]).name, .int .i64 (G l[k]).type.kind, .string (G l[k]).type.pkg, .string (G l[k]).type.name, .slice B4 (G l[k]).type.args.length d4, .slice B5 (G l[k]).type.res.length d5] : List Value)[j]? = some u → (w2.alloc (.cells #[.string (G l[k]).name, .int .i64 (G l[k]).type.kind, .string (G l[k]).type.pkg, .string (G l[k]).type.name, .slice B4 (G l[k]).type.args.length d4, .slice B5 (G l[k]).type.res.length d5] 56)).cell? ⟨w2.heap.size, j, none⟩ = some u from fun j u q => by rw [cell_at (alloc_at w2 _)]; simpa using q)
      have HONE := Lib.hid (show ∀ u ∈ ([.string (G l[k]).name, .int .i64 (G l[k]).type.kind, .string (G l[k]).type.pkg, .string (G l[k]).type.name, .slice B4 (G l[k]).type.args.length d4, .slice B5 (G l[k]).type.res.length d5] : List Value), u.oneCell' = true from fun u q => by simp at q; rcases q with rfl | rfl | rfl | rfl | rfl | rfl <;> rfl)
      have HLN := Lib.hid (show (k + 1) * 104 ≤ 140737488355328 by omega)
      have HLM := Lib.hid (show k + 1 ≤ maxLen by unfold maxLen; omega)
      have HAA := Lib.hid hA
      clear hA
      rw [HLT.out]
      go_wp2_with (at_builtin; go_loud (refine wpList_append_rec _ rfl _ _ 23 rfl w.heap.size 56 (.agg #[.string ⟨#[]⟩, .int .i64 0, .string ⟨#[]⟩, .string ⟨#[]⟩, .slice none 0 0, .slice none 0 0]) 6 104 Try.infnFld Try.underlying23 rfl (by omega) (.slice A' k c') k segs.flatten rfl HOA.out w2.heap.size 1 ([.string (G l[k]).name, .int .i64 (G l[k]).type.kind, .string (G l[k]).type.pkg, .string (G l[k]).type.name, .slice B4 (G l[k]).type.args.length d4, .slice B5 (G l[k]).type.res.length d5]) rfl rfl HNE.out HONE.out HLN.out HLM.out HSZ.out ?_; intro v1 w3 h1 g1 r1; have hw2 := HW.out; rw [HLT.out] at hw2; have HN := Lib.hid (EachRow.next (y := G l[k]) (v' := v1) (w' := w3) HW.out HC2.out HV.out rfl HAA.out (by rw [HLT.out]; exact h1) (by rw [HLT.out]; exact g1) (by rw [HLT.out]; exact r1)); obtain ⟨A1, k1, rfl⟩ := own_slice h1; clear h1 g1 r1 hw2))
      go_roundw
      case rel => exact ⟨k + 1, _, by omega, by go_num, by rw [HSN.out]; exact HN.out⟩
      case measure => simp [intOf]; omega
    · obtain rfl : k = l.length := by omega
      rw [List.take_length] at hw HLT
      have HD := Lib.hid (RowL.of hw)
      have HLL := Lib.hid (show (l.map G).length = l.length from HLT.out)
      rw [HLT.out] at HD
      clear hw
      rw [List.take_length, HLL.out]
      go_wp2_with fail
      refine bodyPost_ret (results_tmp rfl _ _ _) rfl ?_
      exact HD.out
end Go.Proofs.Ytiecbgclkdlpkaa.fr

