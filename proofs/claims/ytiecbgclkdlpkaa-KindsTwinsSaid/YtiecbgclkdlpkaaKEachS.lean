/-
  The walk of kinds.each that makes texts of types. The conditions: the list reads and is not too long; the function has its contract; its texts are not too long.
-/
import Derived.Test.YtiecbgclkdlpkaaKEach
import Derived.Test.YtiecbgclkdlpkaaKIdx
namespace Go.Proofs.Ytiecbgclkdlpkaa
open Go.RowKit
set_option linter.unusedVariables false
set_option linter.unusedSimpArgs false

theorem Try.infoStr : (Try.prog.info? 9).map (fun i => (i.zero, i.size, i.bytes)) = some (some (.string ⟨#[]⟩), 1, 16) := by kernel_rfl
def dstr (s : ByteArray) : List D := [.str s]
/-- What a function makes of one of them. -/
def OneStr (w0 : World) (f : Nat) (G : Ty → ByteArray) (t : Ty) : Prop := ∀ (w : World) (vs : List Value), Below w0.heap.size w0 w → Vals w t.d vs → Calls Try.prog f #[.agg vs.toArray] w fun e w' => e = .returned (.string (G t)) ∧ Below w.heap.size w w'
set_option maxRecDepth 100000 in
set_option maxHeartbeats 1600000 in
theorem eachStr_any (w : World) (l : List Ty) (A : Option Addr) (c : Nat) (hl : SL w 5 (Ty.ds l) l.length A c) (hn : l.length ≤ 1000000) (f : Nat) (G : Ty → ByteArray) (hf : Enters f) (hone : ∀ t ∈ l, OneStr w f G t) (hsz : ∀ t ∈ l, (G t).size ≤ Reach) :
    Calls Try.prog 55 #[.slice A l.length c, .func (.func f) #[] #[]] w (NewL w dstr 1 (l.map G)) := by
  have HL := Lib.hid hl; have HO := Lib.hid hone; have HZ := Lib.hid hsz; clear hl hone hsz
  have HF := hf; unfold Enters at hf; have HE := Lib.hid HF; clear HF
  go_enter Try.func55, Try.ntmps55
  go_wp2_with fail
  go_loopw [5, 10] (fun v i wr => ∃ (k : Nat) (segs : List (List Value)), k ≤ l.length ∧ i = .int .i64 k ∧ EachRow w wr dstr 1 9 v ((l.take k).map G) segs) (fun v i _ => l.length - (intOf i).toNat)
  case atStart => exact ⟨0, [], Nat.zero_le _, rfl, EachRow.start w _ _ _⟩
  case round =>
    obtain ⟨k, segs, hk, rfl, hw⟩ := hrel
    obtain ⟨A', c', rfl⟩ := own_slice hw.own
    have HLT := Lib.hid (show ((l.take k).map G).length = k by simp; omega)
    by_cases hlt : k < l.length
    · obtain ⟨b, o, hA, A3, c3, A4, c4, e0, e1, e2, e3, e4, q0, q1, q2, q3, q4⟩ := Ty.at HL.out.2.2.2 k hlt
      subst hA
      have hsub := Below.sub hw.chg.below
      have HVT := Lib.hid ((Ty.shut (w := w) (t := l[k]) q0 q1 q2 q3 q4).sub hsub)
      have f0 := hsub _ _ e0; have f1 := hsub _ _ e1; have f2 := hsub _ _ e2; have f3 := hsub _ _ e3; have f4 := hsub _ _ e4
      have HK := Lib.hid (List.getElem_mem hlt)
      have HSN := Lib.hid (map_take_snoc G l k hlt)
      have HW := Lib.hid hw
      have hAl := (Below.refl wr.heap.size wr).alloc (Nat.le_refl _) (.cells #[.int .i64 l[k].kind, .string l[k].pkg, .string l[k].name, .slice A3 l[k].args.length c3, .slice A4 l[k].res.length c4] 26)
      have HAL := Lib.hid hAl
      have HBW := Lib.hid (show Below w.heap.size w (wr.alloc (.cells #[.int .i64 l[k].kind, .string l[k].pkg, .string l[k].name, .slice A3 l[k].args.length c3, .slice A4 l[k].res.length c4] 26)) from hw.chg.below.trans (hAl.mono hw.chg.size))
      clear hsub hw hAl e0 e1 e2 e3 e4 q0 q1 q2 q3 q4
      have hlt' : (k : Int) < l.length := by omega
      obtain ⟨s, hs⟩ : ∃ s, s = G l[k] := ⟨_, rfl⟩
      have HGS := Lib.hid hs
      have HSR := Lib.hid (show s.size ≤ Reach by rw [hs]; exact HZ.out _ HK.out)
      clear hs
      go_wp2_with fail
      refine (HO.out _ HK.out _ _ HBW.out (HVT.out.sub (Below.sub HAL.out))).mono ?_
      rw [← HGS.out]
      rintro e w2 ⟨rfl, hb2⟩
      have HC2 := Lib.hid ((below_none HAL.out).trans (below_none hb2) (fun _ _ q => q))
      clear hb2
      have hA : Chg (fun _ => False) w2 (w2.alloc (.cells #[.string s] 9)) := (Chg.refl _ _).alloc _
      have HOA := Lib.hid (own_grows hA (own_grows HC2.out HW.out.own))
      rw [HLT.out] at HOA
      have HSZ := Lib.hid (show w.heap.size ≤ (w2.alloc (.cells #[.string s] 9)).heap.size from Nat.le_trans (Nat.le_trans HW.out.chg.size HC2.out.size) hA.size)
      have HNE := Lib.hid (show ∀ (j : Nat) (u : Value), ([.string s] : List Value)[j]? = some u → (w2.alloc (.cells #[.string s] 9)).cell? ⟨w2.heap.size, j, none⟩ = some u from fun j u q => by rw [cell_at (alloc_at w2 _)]; simpa using q)
      have HONE := Lib.hid (show ∀ u ∈ ([.string s] : List Value), u.oneCell' = true from fun u q => by simp at q; rcases q with rfl; rfl)
      have HLN := Lib.hid (show (k + 1) * 16 ≤ 140737488355328 by omega)
      have HLM := Lib.hid (show k + 1 ≤ maxLen by unfold maxLen; omega)
      have HAA := Lib.hid hA
      have HV := Lib.hid (show Vals (NewW wr.heap.size none w2) (dstr s) [.string s] by simp only [dstr, Vals, DV]; exact ⟨_, _, rfl, ⟨rfl, HSR.out⟩, rfl⟩)
      clear hA
      rw [HLT.out]
      go_wp2_with (at_builtin; go_loud (refine wpList_append_rec _ rfl _ _ 36 rfl w.heap.size 9 (.string ⟨#[]⟩) 1 16 Try.infoStr Try.underlying36 rfl (by omega) (.slice A' k c') k segs.flatten rfl HOA.out w2.heap.size 1 ([.string s]) rfl rfl HNE.out HONE.out HLN.out HLM.out HSZ.out ?_; intro v1 w3 h1 g1 r1; have hw2 := HW.out; rw [HLT.out] at hw2; have HN := Lib.hid (EachRow.next (y := s) (v' := v1) (w' := w3) HW.out HC2.out HV.out rfl HAA.out (by rw [HLT.out]; exact h1) (by rw [HLT.out]; exact g1) (by rw [HLT.out]; exact r1)); obtain ⟨A1, k1, rfl⟩ := own_slice h1; clear h1 g1 r1 hw2))
      go_roundw
      case rel => exact ⟨k + 1, _, by omega, by go_num, by rw [HSN.out, ← HGS.out]; exact HN.out⟩
      case measure => simp [intOf]; omega
    · obtain rfl : k = l.length := by omega
      rw [List.take_length] at hw HLT
      have HD := Lib.hid (hw.done (by rw [HLT.out]; unfold Reach; omega))
      have HLL := Lib.hid (show (l.map G).length = l.length from HLT.out)
      rw [HLT.out] at HD
      clear hw
      rw [List.take_length, HLL.out]
      go_wp2_with fail
      refine bodyPost_ret (results_tmp rfl _ _ _) rfl ?_
      exact HD.out
end Go.Proofs.Ytiecbgclkdlpkaa
