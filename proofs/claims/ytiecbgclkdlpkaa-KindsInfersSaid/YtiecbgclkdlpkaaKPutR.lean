/-
  The walks of mortiseref7.Put and mortiseref7.Copy: types in the place of variables; a type anew. The conditions: what is handed in reads; it is not too great.
-/
import Derived.Test.YtiecbgclkdlpkaaAppS
import Derived.Test.YtiecbgclkdlpkaaKPut
import Derived.Deep.Cut
import Derived.Deep.CutRange
import Derived.Deep.DeepCutAuto
namespace Go.Proofs.Ytiecbgclkdlpkaa
open Go.RowKit
set_option linter.unusedVariables false
set_option linter.unusedSimpArgs false
attribute [local irreducible] wpStill wpOrd wpT

def RPutC (names : List ByteArray) (ts : List Ty) (t : Ty) : Prop := ∀ (w : World) (vs : List Value) (A : Option Addr) (c : Nat) (A' : Option Addr) (c' : Nat), Vals w t.d vs → SL w 1 (strs names) names.length A c → SL w 5 (Ty.ds ts) ts.length A' c' →
  Calls Try.prog 28 #[.agg vs.toArray, .slice A names.length c, .slice A' ts.length c'] w (NewV w Ty.d (putTy names ts t))
def RCopC (t : Ty) : Prop := ∀ (w : World) (vs : List Value), Vals w t.d vs → Calls Try.prog 25 #[.agg vs.toArray] w (NewV w Ty.d t)

theorem rows_sl {S : Nat → Prop} {w wr : World} {e : TypeId} {A : Option Addr} {c : Nat} {xs : List Ty} {segs : List (List Value)} (h : EachRowS S w wr Ty.d 5 e (.slice A xs.length c) xs segs) (hn : xs.length ≤ Reach) : SL (NewW w.heap.size none wr) 5 (Ty.ds xs) xs.length A c := new_sl (h.done hn)

set_option maxRecDepth 100000 in
set_option maxHeartbeats 3200000 in
theorem rput_hit {names : List ByteArray} {ts : List Ty} (t : Ty) (hp : putB names ts t.kind t.name = true) (hs : ∀ x ∈ ts, RCopC x) : RPutC names ts t := by
  intro w vs A c A' c' hv hn ht
  obtain ⟨A3, c3, A4, c4, rfl, q0, q1, q2, q3, q4⟩ := Ty.opn hv
  have HB0 := Lib.hid (show Below w.heap.size w ((w.alloc (.cells #[.int .i64 t.kind, .string t.pkg, .string t.name, .slice A3 t.args.length c3, .slice A4 t.res.length c4] 26)).alloc (.cells #[.int .i64 0, .string ⟨#[]⟩, .string ⟨#[]⟩, .slice none 0 0, .slice none 0 0] 26)) from ((Below.refl w.heap.size w).alloc (Nat.le_refl _) _).alloc (by simp) _)
  have hbr := alloc_at (w.alloc (.cells #[.int .i64 t.kind, .string t.pkg, .string t.name, .slice A3 t.args.length c3, .slice A4 t.res.length c4] 26)) (.cells #[.int .i64 0, .string ⟨#[]⟩, .string ⟨#[]⟩, .slice none 0 0, .slice none 0 0] 26)
  rw [World.size_alloc] at hbr
  have HBR0 := Lib.hid (show ((w.alloc (.cells #[.int .i64 t.kind, .string t.pkg, .string t.name, .slice A3 t.args.length c3, .slice A4 t.res.length c4] 26)).alloc (.cells #[.int .i64 0, .string ⟨#[]⟩, .string ⟨#[]⟩, .slice none 0 0, .slice none 0 0] 26)).heap[w.heap.size + 1]? = some (.cells #[.int .i64 0, .string ⟨#[]⟩, .string ⟨#[]⟩, .slice none 0 0, .slice none 0 0] 26 (0, 0)) from hbr)
  have HIX := Lib.hid (place_any ((w.alloc (.cells #[.int .i64 t.kind, .string t.pkg, .string t.name, .slice A3 t.args.length c3, .slice A4 t.res.length c4] 26)).alloc (.cells #[.int .i64 0, .string ⟨#[]⟩, .string ⟨#[]⟩, .slice none 0 0, .slice none 0 0] 26)) names A c (hn.sub (Below.sub HB0.out)) t.name)
  have hnl := hn.2.2.1; have htl := ht.2.2.1
  unfold Reach at hnl htl
  unfold putB at hp
  simp only [Bool.and_eq_true, decide_eq_true_eq] at hp
  obtain ⟨p1, p2, p3⟩ := hp
  obtain ⟨m, p3, hq1, hq2⟩ : ∃ (m : Nat) (h : m < ts.length), putTy names ts t = ts[m] ∧ placeI names t.name = (m : Int) := by
    refine ⟨placeN names t.name, p3, ?_, ?_⟩
    · rw [putTy_eq, if_pos (by unfold putB; simp only [Bool.and_eq_true, decide_eq_true_eq]; exact ⟨p1, p2, p3⟩), List.getD_eq_getElem?_getD, List.getElem?_eq_getElem p3]; rfl
    · unfold placeI; rw [if_pos p2]
  have HEQ := Lib.hid hq1
  rw [hq2] at HIX
  have hkb : (t.kind == 9) = true := by simp [p1]
  obtain ⟨bb, oo, hAq, E3, g3, E4, g4, e0, e1, e2, e3, e4, z0, z1, z2, z3, z4⟩ := Ty.at ht.2.2.2 m p3
  subst hAq
  have hsub := Below.sub HB0.out
  have f0 := hsub _ _ e0; have f1 := hsub _ _ e1; have f2 := hsub _ _ e2; have f3 := hsub _ _ e3; have f4 := hsub _ _ e4
  have HCP := Lib.hid (hs _ (List.getElem_mem p3) ((w.alloc (.cells #[.int .i64 t.kind, .string t.pkg, .string t.name, .slice A3 t.args.length c3, .slice A4 t.res.length c4] 26)).alloc (.cells #[.int .i64 0, .string ⟨#[]⟩, .string ⟨#[]⟩, .slice none 0 0, .slice none 0 0] 26)) _ ((Ty.shut (w := w) (t := ts[m]) z0 z1 z2 z3 z4).sub hsub))
  have p3' : (m : Int) < ts.length := by omega
  clear hv hn ht hbr q0 q1 q2 q3 q4 hsub e0 e1 e2 e3 e4 z0 z1 z2 z3 z4 hs hq1 hq2 p1 p2
  go_enter Try.func28, Try.ntmps28
  go_wp2_with fail
  refine HIX.out.mono ?_
  rintro e w' ⟨rfl, rfl⟩
  go_wp2_with fail
  refine HCP.out.mono ?_
  rintro e w2 ⟨vs2, rfl, hv2, hb2⟩
  rw [← HEQ.out] at hv2
  obtain ⟨y, hy⟩ : ∃ y, y = putTy names ts t := ⟨_, rfl⟩
  rw [← hy] at hv2
  have HY := Lib.hid hy
  clear hy
  have HV2 := Lib.hid hv2
  obtain ⟨B3, d3, B4, d4, rfl, y0, y1, y2, y3, y4⟩ := Ty.opn hv2
  have HBR2 := Lib.hid ((hb2.block _ (lt_of_block HBR0.out)).trans HBR0.out)
  have HB2 := Lib.hid (HB0.out.trans (hb2.mono HB0.out.size))
  clear hv2 hb2 y0 y1 y2 y3 y4
  have r0_ : w2.cell? ⟨w.heap.size + 1, 0, none⟩ = some (.int .i64 0) := (cell_at HBR2.out 0).trans rfl
  have s0_ : w2.frozen? ⟨w.heap.size + 1, 0, none⟩ = false := free_at HBR2.out 0
  have r1_ : w2.cell? ⟨w.heap.size + 1, 1, none⟩ = some (.string ⟨#[]⟩) := (cell_at HBR2.out 1).trans rfl
  have s1_ : w2.frozen? ⟨w.heap.size + 1, 1, none⟩ = false := free_at HBR2.out 1
  have r2_ : w2.cell? ⟨w.heap.size + 1, 2, none⟩ = some (.string ⟨#[]⟩) := (cell_at HBR2.out 2).trans rfl
  have s2_ : w2.frozen? ⟨w.heap.size + 1, 2, none⟩ = false := free_at HBR2.out 2
  have r3_ : w2.cell? ⟨w.heap.size + 1, 3, none⟩ = some (.slice none 0 0) := (cell_at HBR2.out 3).trans rfl
  have s3_ : w2.frozen? ⟨w.heap.size + 1, 3, none⟩ = false := free_at HBR2.out 3
  have r4_ : w2.cell? ⟨w.heap.size + 1, 4, none⟩ = some (.slice none 0 0) := (cell_at HBR2.out 4).trans rfl
  have s4_ : w2.frozen? ⟨w.heap.size + 1, 4, none⟩ = false := free_at HBR2.out 4
  have h0_ : (w2.setCell ⟨w.heap.size + 1, 0, none⟩ (.int .i64 y.kind)).heap[w.heap.size + 1]? = some (.cells #[.int .i64 y.kind, .string ⟨#[]⟩, .string ⟨#[]⟩, .slice none 0 0, .slice none 0 0] 26 (0, 0)) := set_at HBR2.out 0 (.int .i64 y.kind)
  have h1_ : ((w2.setCell ⟨w.heap.size + 1, 0, none⟩ (.int .i64 y.kind)).setCell ⟨w.heap.size + 1, 1, none⟩ (.string y.pkg)).heap[w.heap.size + 1]? = some (.cells #[.int .i64 y.kind, .string y.pkg, .string ⟨#[]⟩, .slice none 0 0, .slice none 0 0] 26 (0, 0)) := set_at h0_ 1 (.string y.pkg)
  have h2_ : (((w2.setCell ⟨w.heap.size + 1, 0, none⟩ (.int .i64 y.kind)).setCell ⟨w.heap.size + 1, 1, none⟩ (.string y.pkg)).setCell ⟨w.heap.size + 1, 2, none⟩ (.string y.name)).heap[w.heap.size + 1]? = some (.cells #[.int .i64 y.kind, .string y.pkg, .string y.name, .slice none 0 0, .slice none 0 0] 26 (0, 0)) := set_at h1_ 2 (.string y.name)
  have h3_ : ((((w2.setCell ⟨w.heap.size + 1, 0, none⟩ (.int .i64 y.kind)).setCell ⟨w.heap.size + 1, 1, none⟩ (.string y.pkg)).setCell ⟨w.heap.size + 1, 2, none⟩ (.string y.name)).setCell ⟨w.heap.size + 1, 3, none⟩ (.slice B3 y.args.length d3)).heap[w.heap.size + 1]? = some (.cells #[.int .i64 y.kind, .string y.pkg, .string y.name, .slice B3 y.args.length d3, .slice none 0 0] 26 (0, 0)) := set_at h2_ 3 (.slice B3 y.args.length d3)
  have h4_ : (((((w2.setCell ⟨w.heap.size + 1, 0, none⟩ (.int .i64 y.kind)).setCell ⟨w.heap.size + 1, 1, none⟩ (.string y.pkg)).setCell ⟨w.heap.size + 1, 2, none⟩ (.string y.name)).setCell ⟨w.heap.size + 1, 3, none⟩ (.slice B3 y.args.length d3)).setCell ⟨w.heap.size + 1, 4, none⟩ (.slice B4 y.res.length d4)).heap[w.heap.size + 1]? = some (.cells #[.int .i64 y.kind, .string y.pkg, .string y.name, .slice B3 y.args.length d3, .slice B4 y.res.length d4] 26 (0, 0)) := set_at h3_ 4 (.slice B4 y.res.length d4)
  have hset : Chg (fun k => k = w.heap.size + 1) w2 (((((w2.setCell ⟨w.heap.size + 1, 0, none⟩ (.int .i64 y.kind)).setCell ⟨w.heap.size + 1, 1, none⟩ (.string y.pkg)).setCell ⟨w.heap.size + 1, 2, none⟩ (.string y.name)).setCell ⟨w.heap.size + 1, 3, none⟩ (.slice B3 y.args.length d3)).setCell ⟨w.heap.size + 1, 4, none⟩ (.slice B4 y.res.length d4)) := ((((((Chg.refl (fun k => k = w.heap.size + 1) w2).setCell (p := ⟨w.heap.size + 1, 0, none⟩) (fun _ => rfl) (.int .i64 y.kind)).setCell (p := ⟨w.heap.size + 1, 1, none⟩) (fun _ => rfl) (.string y.pkg)).setCell (p := ⟨w.heap.size + 1, 2, none⟩) (fun _ => rfl) (.string y.name)).setCell (p := ⟨w.heap.size + 1, 3, none⟩) (fun _ => rfl) (.slice B3 y.args.length d3)).setCell (p := ⟨w.heap.size + 1, 4, none⟩) (fun _ => rfl) (.slice B4 y.res.length d4))
  have hd : ∀ (i : Nat) (v : Value), ([.int .i64 y.kind, .string y.pkg, .string y.name, .slice B3 y.args.length d3, .slice B4 y.res.length d4] : List Value)[i]? = some v → (((((w2.setCell ⟨w.heap.size + 1, 0, none⟩ (.int .i64 y.kind)).setCell ⟨w.heap.size + 1, 1, none⟩ (.string y.pkg)).setCell ⟨w.heap.size + 1, 2, none⟩ (.string y.name)).setCell ⟨w.heap.size + 1, 3, none⟩ (.slice B3 y.args.length d3)).setCell ⟨w.heap.size + 1, 4, none⟩ (.slice B4 y.res.length d4)).cell? ⟨w.heap.size + 1, i, none⟩ = some v := fun i v q => by rw [cell_at h4_]; simpa using q
  have HD := Lib.hid hd
  have HF := Lib.hid (Below.chg HB2.out hset HB2.out.size (fun i q => by omega))
  have HV3 := Lib.hid (HV2.out.sub (new_chg hset (n := ((w.alloc (.cells #[.int .i64 t.kind, .string t.pkg, .string t.name, .slice A3 t.args.length c3, .slice A4 t.res.length c4] 26)).alloc (.cells #[.int .i64 0, .string ⟨#[]⟩, .string ⟨#[]⟩, .slice none 0 0, .slice none 0 0] 26)).heap.size) (g := none) (g' := none) (fun k q _ => .inl (by simp; omega)) (fun k q => by cases q)))
  clear hd hset h0_ h1_ h2_ h3_ h4_
  go_wp2_with fail
  refine bodyPost_ret (v := .agg #[.int .i64 y.kind, .string y.pkg, .string y.name, .slice B3 y.args.length d3, .slice B4 y.res.length d4]) (by have d0 := HD.out 0 _ rfl; have d1 := HD.out 1 _ rfl; have d2 := HD.out 2 _ rfl; have d3_ := HD.out 3 _ rfl; have d4_ := HD.out 4 _ rfl; simp [results, Try.results28, go_sem, d0, d1, d2, d3_, d4_]) rfl ?_
  rw [← HY.out]
  exact ⟨_, rfl, HV3.out.sub (new_mono (by simp; omega) _ _), HF.out⟩

set_option maxRecDepth 100000 in
set_option maxHeartbeats 6400000 in
theorem rput_miss {names : List ByteArray} {ts : List Ty} (t : Ty) (hp : putB names ts t.kind t.name = false) (h1 : t.args.length ≤ 1000000) (h2 : t.res.length ≤ 1000000) (o_args : ∀ x ∈ t.args, RPutC names ts x) (o_res : ∀ x ∈ t.res, RPutC names ts x) : RPutC names ts t := by
  intro w vs A c A' c' hv hn ht
  obtain ⟨A3, c3, A4, c4, rfl, q0, q1, q2, q3, q4⟩ := Ty.opn hv
  have HB0 := Lib.hid (show Below w.heap.size w ((w.alloc (.cells #[.int .i64 t.kind, .string t.pkg, .string t.name, .slice A3 t.args.length c3, .slice A4 t.res.length c4] 26)).alloc (.cells #[.int .i64 0, .string ⟨#[]⟩, .string ⟨#[]⟩, .slice none 0 0, .slice none 0 0] 26)) from ((Below.refl w.heap.size w).alloc (Nat.le_refl _) _).alloc (by simp) _)
  have HIX := Lib.hid (place_any ((w.alloc (.cells #[.int .i64 t.kind, .string t.pkg, .string t.name, .slice A3 t.args.length c3, .slice A4 t.res.length c4] 26)).alloc (.cells #[.int .i64 0, .string ⟨#[]⟩, .string ⟨#[]⟩, .slice none 0 0, .slice none 0 0] 26)) names A c (hn.sub (Below.sub HB0.out)) t.name)
  have hnl := hn.2.2.1; have htl := ht.2.2.1
  unfold Reach at hnl htl
  have HEQ := Lib.hid (show putTy names ts t = .mk t.kind t.pkg t.name (t.args.map (putTy names ts)) (t.res.map (putTy names ts)) by rw [putTy_eq, if_neg (by rw [hp]; simp)])
  have HNM := Lib.hid hn; have HTS := Lib.hid ht
  have Q0 := Lib.hid q0; have Q1 := Lib.hid q1; have Q2 := Lib.hid q2; have Q3 := Lib.hid q3; have Q4 := Lib.hid q4
  have OC3 := Lib.hid o_args; have OC4 := Lib.hid o_res
  have HP := Lib.hid hp
  clear hv hn ht q0 q1 q2 q3 q4 hp o_args o_res
  go_enter Try.func28, Try.ntmps28
  go_upto_if 13 with (fail)
  go_cut [] from 7 to 30 (fun wx => wx = ((w.alloc (.cells #[.int .i64 t.kind, .string t.pkg, .string t.name, .slice A3 t.args.length c3, .slice A4 t.res.length c4] 26)).alloc (.cells #[.int .i64 0, .string ⟨#[]⟩, .string ⟨#[]⟩, .slice none 0 0, .slice none 0 0] 26)))
  case first =>
    by_cases hk : t.kind = 9
    · have hkb : (t.kind == 9) = true := by simp [hk]
      by_cases hn : placeN names t.name < names.length
      · have HPI := Lib.hid (show placeI names t.name = (placeN names t.name : Int) by unfold placeI; rw [if_pos hn])
        rw [HPI.out] at HIX
        have hm : ¬ (placeN names t.name : Int) < ts.length := by
          intro h
          have hp := HP.out
          unfold putB at hp
          rw [decide_eq_true hk, decide_eq_true hn, decide_eq_true (by omega : placeN names t.name < ts.length)] at hp
          cases hp
        clear hk hn
        go_wp2_with fail
        refine HIX.out.mono ?_
        rintro e w' ⟨rfl, rfl⟩
        go_wp2_with fail
        go_meet
        case rel => rfl
      · have HPI := Lib.hid (show placeI names t.name = -1 by unfold placeI; rw [if_neg hn])
        rw [HPI.out] at HIX
        clear hk hn
        go_wp2_with fail
        refine HIX.out.mono ?_
        rintro e w' ⟨rfl, rfl⟩
        go_wp2_with fail
        go_meet
        case rel => rfl
    · have hkb : (t.kind == 9) = false := by simp [hk]
      clear hk
      go_wp2_with fail
      go_meet
      case rel => rfl
  case rest =>
    subst hcut
    have hzb : Below w.heap.size w (((w.alloc (.cells #[.int .i64 t.kind, .string t.pkg, .string t.name, .slice A3 t.args.length c3, .slice A4 t.res.length c4] 26)).alloc (.cells #[.int .i64 0, .string ⟨#[]⟩, .string ⟨#[]⟩, .slice none 0 0, .slice none 0 0] 26)).alloc (.cells #[.int .i64 t.kind, .string t.pkg, .string t.name, .slice none 0 0, .slice none 0 0] 26)) := HB0.out.alloc (by simp; omega) _
    have hzt : (((w.alloc (.cells #[.int .i64 t.kind, .string t.pkg, .string t.name, .slice A3 t.args.length c3, .slice A4 t.res.length c4] 26)).alloc (.cells #[.int .i64 0, .string ⟨#[]⟩, .string ⟨#[]⟩, .slice none 0 0, .slice none 0 0] 26)).alloc (.cells #[.int .i64 t.kind, .string t.pkg, .string t.name, .slice none 0 0, .slice none 0 0] 26)).heap[w.heap.size]? = some (.cells #[.int .i64 t.kind, .string t.pkg, .string t.name, .slice A3 t.args.length c3, .slice A4 t.res.length c4] 26 (0, 0)) := alloc_old (alloc_old (alloc_at w _) _) _
    have hzr : (((w.alloc (.cells #[.int .i64 t.kind, .string t.pkg, .string t.name, .slice A3 t.args.length c3, .slice A4 t.res.length c4] 26)).alloc (.cells #[.int .i64 0, .string ⟨#[]⟩, .string ⟨#[]⟩, .slice none 0 0, .slice none 0 0] 26)).alloc (.cells #[.int .i64 t.kind, .string t.pkg, .string t.name, .slice none 0 0, .slice none 0 0] 26)).heap[w.heap.size + 1]? = some (.cells #[.int .i64 0, .string ⟨#[]⟩, .string ⟨#[]⟩, .slice none 0 0, .slice none 0 0] 26 (0, 0)) := alloc_old (by have := alloc_at (w.alloc (.cells #[.int .i64 t.kind, .string t.pkg, .string t.name, .slice A3 t.args.length c3, .slice A4 t.res.length c4] 26)) (.cells #[.int .i64 0, .string ⟨#[]⟩, .string ⟨#[]⟩, .slice none 0 0, .slice none 0 0] 26); rwa [World.size_alloc] at this) _
    have hzu : (((w.alloc (.cells #[.int .i64 t.kind, .string t.pkg, .string t.name, .slice A3 t.args.length c3, .slice A4 t.res.length c4] 26)).alloc (.cells #[.int .i64 0, .string ⟨#[]⟩, .string ⟨#[]⟩, .slice none 0 0, .slice none 0 0] 26)).alloc (.cells #[.int .i64 t.kind, .string t.pkg, .string t.name, .slice none 0 0, .slice none 0 0] 26)).heap[w.heap.size + 1 + 1]? = some (.cells #[.int .i64 t.kind, .string t.pkg, .string t.name, .slice none 0 0, .slice none 0 0] 26 (0, 0)) := by have := alloc_at ((w.alloc (.cells #[.int .i64 t.kind, .string t.pkg, .string t.name, .slice A3 t.args.length c3, .slice A4 t.res.length c4] 26)).alloc (.cells #[.int .i64 0, .string ⟨#[]⟩, .string ⟨#[]⟩, .slice none 0 0, .slice none 0 0] 26)) (.cells #[.int .i64 t.kind, .string t.pkg, .string t.name, .slice none 0 0, .slice none 0 0] 26); rwa [World.size_alloc, World.size_alloc] at this
    have hl3 := Q3.out.2.2.1; have hl4 := Q4.out.2.2.1
    unfold Reach at hl3 hl4
    go_wp2_with fail
    obtain ⟨F, hF⟩ : ∃ F, F = putTy names ts := ⟨_, rfl⟩
    have HFF := Lib.hid hF
    clear hF
    obtain ⟨wz, hz⟩ : ∃ x, x = (((w.alloc (.cells #[.int .i64 t.kind, .string t.pkg, .string t.name, .slice A3 t.args.length c3, .slice A4 t.res.length c4] 26)).alloc (.cells #[.int .i64 0, .string ⟨#[]⟩, .string ⟨#[]⟩, .slice none 0 0, .slice none 0 0] 26)).alloc (.cells #[.int .i64 t.kind, .string t.pkg, .string t.name, .slice none 0 0, .slice none 0 0] 26)) := ⟨_, rfl⟩
    rw [← hz] at hzb hzt hzr hzu
    rw [← hz]
    clear hz
    have HZB := Lib.hid hzb; have HZT := Lib.hid hzt; have HZU := Lib.hid hzu; have HZR := Lib.hid hzr
    have HZS := Lib.hid (lt_of_block hzu)
    clear hzb hzt hzu hzr HIX HB0
    go_loopw [9] (fun i wr => ∃ (k : Nat) (v : Value) (segs : List (List Value)), k ≤ t.args.length ∧ i = .int .i64 k ∧ wr.heap[w.heap.size + 1 + 1]? = some (.cells #[.int .i64 t.kind, .string t.pkg, .string t.name, v, .slice none 0 0] 26 (0, 0)) ∧ EachRowS (fun j => j = w.heap.size + 1 + 1) wz wr Ty.d 5 26 v ((t.args.take k).map F) segs) (fun i _ => t.args.length - (intOf i).toNat)
    case atStart => exact ⟨0, _, [], Nat.zero_le _, rfl, HZU.out, EachRowS.start _ (fun j e => by subst e; exact HZS.out) _ _ _⟩
    case round =>
      obtain ⟨k, v, segs, hk, rfl, hu, hw⟩ := hrel
      obtain ⟨A5, c5, hv⟩ := own_slice hw.own
      have hlen : ((t.args.take k).map F).length = k := by simp; omega
      rw [hlen] at hv
      subst hv
      have HLT := Lib.hid hlen
      clear hlen
      have HW := Lib.hid hw; have HU := Lib.hid hu
      clear hw hu
      have t3_ : wr.cell? ⟨w.heap.size, 3, none⟩ = some (.slice A3 t.args.length c3) := (cell_at (HW.out.chg.heap HZT.out (by show ¬ _ = _; omega)) 3).trans rfl
      by_cases hlt : k < t.args.length
      · have hlt' : (k : Int) < t.args.length := by omega
        obtain ⟨bb, oo, hAq, E3, g3, E4, g4, e0, e1, e2, e3, e4, z0, z1, z2, z3, z4⟩ := Ty.at Q3.out.2.2.2 k hlt
        subst hAq
        have hbb : bb < w.heap.size := World.block_lt_of_cell? w (a := ⟨bb, oo + k * 5, none⟩) e0
        have HVX := Lib.hid (Ty.shut (w := w) (t := t.args[k]) z0 z1 z2 z3 z4)
        have HKX := Lib.hid (List.getElem_mem hlt)
        have HSN := Lib.hid (map_take_snoc F t.args k hlt)
        have hsub := Below.sub HZB.out
        have f0 := hsub _ _ e0; have f1 := hsub _ _ e1; have f2 := hsub _ _ e2; have f3 := hsub _ _ e3; have f4 := hsub _ _ e4
        clear hsub e0 e1 e2 e3 e4 z0 z1 z2 z3 z4
        go_wp2_with fail
        refine wp_region_otN (fun wS => Chg (fun j => j = w.heap.size + 1 + 1) wz wS) (.get 0 (.get 2 (.get 3 (.get 4 (.get 5 (.get 6 (.get 7 (.get 8 (.two 1 (.one 9 (.one 10 (.one 11 (.get 12 (.one 13 .done))))) 9 (.two 1 (.one 10 (.one 11 (.get 12 (.one 13 .done)))) 10 (.one 1 (.one 11 (.get 12 (.one 13 .done)))))))))))))) (by kernel_rfl) (by kernel_rfl) HW.out.chg.drew ?_
        apply wpT_get rfl
        · go_simp
        · intro wS hS
          go_simp
          try rfl
        intro K hK
        go_simp
        refine hK _ ?_
        clear hK K
        apply wpT_get rfl
        · go_simp
        · intro wS hS
          go_simp
          try rfl
        intro K hK
        go_simp
        refine hK _ ?_
        clear hK K
        apply wpT_get rfl
        · go_simp
        · intro wS hS
          have x0 := (cell_at (hS.heap HZT.out (by show ¬ _ = _; omega)) 3).trans rfl
          go_simp
          try rfl
        intro K hK
        go_simp
        refine hK _ ?_
        clear hK K
        apply wpT_get rfl
        · go_simp
        · intro wS hS
          go_simp
          try rfl
        intro K hK
        go_simp
        refine hK _ ?_
        clear hK K
        apply wpT_get rfl
        · go_simp
        · intro wS hS
          go_simp
          try rfl
        intro K hK
        go_simp
        refine hK _ ?_
        clear hK K
        apply wpT_get rfl
        · go_simp
        · intro wS hS
          have x0 := hS.cell f0 (fun e => by have e1 : bb = w.heap.size + 1 + 1 := e; omega)
          have x1 := hS.cell f1 (fun e => by have e1 : bb = w.heap.size + 1 + 1 := e; omega)
          have x2 := hS.cell f2 (fun e => by have e1 : bb = w.heap.size + 1 + 1 := e; omega)
          have x3 := hS.cell f3 (fun e => by have e1 : bb = w.heap.size + 1 + 1 := e; omega)
          have x4 := hS.cell f4 (fun e => by have e1 : bb = w.heap.size + 1 + 1 := e; omega)
          go_simp
          try rfl
        intro K hK
        go_simp
        refine hK _ ?_
        clear hK K
        apply wpT_get rfl
        · go_simp
        · intro wS hS
          go_simp
          try rfl
        intro K hK
        go_simp
        refine hK _ ?_
        clear hK K
        apply wpT_get rfl
        · go_simp
        · intro wS hS
          go_simp
          try rfl
        intro K hK
        go_simp
        refine hK _ ?_
        clear hK K
        have HCN := Lib.hid HW.out.chg.drew
        have HBN := Lib.hid (show Below w.heap.size w wr.drew from Below.chg HZB.out HCN.out HZB.out.size (fun i hi => by omega))
        refine wpT_two rfl rfl (fun K hK => ?_) (fun K hK => ?_)
        case refine_1 =>
          have k5_ : wr.cell? ⟨w.heap.size + 1 + 1, 3, none⟩ = some (.slice A5 k c5) := (cell_at HU.out 3).trans rfl
          have l5_ := lt_of_block HU.out
          go_wp2_with fail
          clear k5_ l5_
          refine hK _ _ HCN.out ?_
          clear hK K
          refine wpT_one rfl (fun K hK => ?_)
          go_wp2_with fail
          refine (OC3.out _ HKX.out wr.drew _ _ _ _ _ (HVX.out.sub (Below.sub HBN.out)) (HNM.out.sub (Below.sub HBN.out)) (HTS.out.sub (Below.sub HBN.out))).mono ?_
          obtain ⟨y, hy⟩ : ∃ y, y = putTy names ts t.args[k] := ⟨_, rfl⟩
          rw [← hy]
          have HYE := Lib.hid (show y = F t.args[k] by rw [HFF.out]; exact hy)
          clear hy
          rintro e w2 ⟨vs, rfl, hv, hb2⟩
          have HV := Lib.hid (show Vals (NewW wr.heap.size none w2) y.d vs from hv)
          obtain ⟨B3, d3, B4, d4, rfl, y0, y1, y2, y3, y4⟩ := Ty.opn hv
          have HC2 := Lib.hid (show Chg (fun _ => False) wr w2 from ((Chg.refl (fun _ => False) wr).drew).trans (below_none hb2) (fun _ _ q => q))
          have HCN2 := Lib.hid (HW.out.chg.trans HC2.out (fun _ _ q => q.elim))
          have HUN2 := Lib.hid (HC2.out.heap HU.out id)
          clear hv hb2 y0 y1 y2 y3 y4
          go_wp2_with fail
          refine hK _ _ HCN2.out ?_
          clear hK K
          refine wpT_one rfl (fun K hK => ?_)
          go_wp2_with fail
          refine hK _ _ (HCN2.out.alloc _) ?_
          clear hK K
          have HAA := Lib.hid ((Chg.refl (fun _ => False) w2).alloc (.cells #[.int .i64 y.kind, .string y.pkg, .string y.name, .slice B3 y.args.length d3, .slice B4 y.res.length d4] 26))
          have HOA := Lib.hid (show (w2.alloc (.cells #[.int .i64 y.kind, .string y.pkg, .string y.name, .slice B3 y.args.length d3, .slice B4 y.res.length d4] 26)).ownsRow wz.heap.size 26 5 (.slice A5 k c5) k segs.flatten from by have h := own_grows HAA.out (own_grows HC2.out HW.out.own); rw [HLT.out] at h; exact h)
          have HSS := Lib.hid (show wz.heap.size ≤ (w2.alloc (.cells #[.int .i64 y.kind, .string y.pkg, .string y.name, .slice B3 y.args.length d3, .slice B4 y.res.length d4] 26)).heap.size from Nat.le_trans (Nat.le_trans HW.out.chg.size HC2.out.size) HAA.out.size)
          have HNE := Lib.hid (show ∀ (j : Nat) (u : Value), ([.int .i64 y.kind, .string y.pkg, .string y.name, .slice B3 y.args.length d3, .slice B4 y.res.length d4] : List Value)[j]? = some u → (w2.alloc (.cells #[.int .i64 y.kind, .string y.pkg, .string y.name, .slice B3 y.args.length d3, .slice B4 y.res.length d4] 26)).cell? ⟨w2.heap.size, j, none⟩ = some u from fun j u q => by rw [cell_at (alloc_at w2 _)]; simpa using q)
          have HONE := Lib.hid (show ∀ u ∈ ([.int .i64 y.kind, .string y.pkg, .string y.name, .slice B3 y.args.length d3, .slice B4 y.res.length d4] : List Value), u.oneCell' = true from fun u q => by simp at q; rcases q with rfl | rfl | rfl | rfl | rfl <;> rfl)
          have HLN := Lib.hid (show (k + 1) * 88 ≤ 140737488355328 by omega)
          have HLM := Lib.hid (show k + 1 ≤ maxLen by unfold maxLen; omega)
          refine wpT_one rfl (fun K hK => ?_)
          refine wpList_append_rec _ rfl _ _ 24 rfl wz.heap.size 26 (.agg #[.int .i64 0, .string ⟨#[]⟩, .string ⟨#[]⟩, .slice none 0 0, .slice none 0 0]) 5 88 Try.infnTy Try.underlying24 rfl (by omega) (.slice A5 k c5) k segs.flatten rfl HOA.out w2.heap.size 1 ([.int .i64 y.kind, .string y.pkg, .string y.name, .slice B3 y.args.length d3, .slice B4 y.res.length d4]) rfl rfl HNE.out HONE.out HLN.out HLM.out HSS.out ?_
          intro v1 w3 h1 g1 r1
          have HN2 := Lib.hid (EachRowS.next (y := y) (v' := v1) (w' := w3) HW.out HC2.out HV.out rfl HAA.out (by rw [HLT.out]; exact h1) g1 r1)
          obtain ⟨A6, c6, rfl⟩ := own_slice h1
          have HU3 := Lib.hid (show w3.heap[w.heap.size + 1 + 1]? = some (.cells #[.int .i64 t.kind, .string t.pkg, .string t.name, .slice A5 k c5, .slice none 0 0] 26 (0, 0)) from ((HAA.out.mono (S' := fun j => (Value.slice A5 k c5).ownBlock = some j) (fun _ _ q => q.elim)).grown g1 (fun k _ e => e)).heap HUN2.out (fun q => by have := (HW.out.own.lt _ q).1; have := HZS.out; omega))
          clear h1 g1 r1
          go_wp2_with fail
          refine hK _ _ HN2.out.chg ?_
          clear hK K
          apply wpT_get rfl
          · go_simp
          · intro wS hS
            go_simp
            try rfl
          intro K hK
          go_simp
          refine hK _ ?_
          clear hK K
          have HC4 := Lib.hid ((Chg.refl (fun j => j = w.heap.size + 1 + 1) w3).setCell (p := ⟨w.heap.size + 1 + 1, 3, none⟩) (fun _ => rfl) (.slice A6 (k + 1) c6))
          have HN3 := Lib.hid (HN2.out.keep HC4.out)
          have HU4 := Lib.hid (show (w3.setCell ⟨w.heap.size + 1 + 1, 3, none⟩ (.slice A6 (k + 1) c6)).heap[w.heap.size + 1 + 1]? = some (.cells #[.int .i64 t.kind, .string t.pkg, .string t.name, .slice A6 (k + 1) c6, .slice none 0 0] 26 (0, 0)) from set_at HU3.out 3 _)
          have k6_ : w3.cell? ⟨w.heap.size + 1 + 1, 3, none⟩ = some (.slice A5 k c5) := (cell_at HU3.out 3).trans rfl
          have k7_ : w3.frozen? ⟨w.heap.size + 1 + 1, 3, none⟩ = false := free_at HU3.out 3
          refine wpT_one rfl (fun K hK => ?_)
          go_wp2_with fail
          refine hK _ _ HN3.out.chg ?_
          clear hK K k6_ k7_
          refine wpT_doneN ?_
          go_wp2_with fail
          go_roundw
          case rel => exact ⟨k + 1, _, _, by omega, by go_num, HU4.out, by rw [HSN.out, ← HYE.out]; exact HN3.out⟩
          case measure => simp [intOf]; omega
        case refine_2 =>
          go_wp2_with fail
          refine (OC3.out _ HKX.out wr.drew _ _ _ _ _ (HVX.out.sub (Below.sub HBN.out)) (HNM.out.sub (Below.sub HBN.out)) (HTS.out.sub (Below.sub HBN.out))).mono ?_
          obtain ⟨y, hy⟩ : ∃ y, y = putTy names ts t.args[k] := ⟨_, rfl⟩
          rw [← hy]
          have HYE := Lib.hid (show y = F t.args[k] by rw [HFF.out]; exact hy)
          clear hy
          rintro e w2 ⟨vs, rfl, hv, hb2⟩
          have HV := Lib.hid (show Vals (NewW wr.heap.size none w2) y.d vs from hv)
          obtain ⟨B3, d3, B4, d4, rfl, y0, y1, y2, y3, y4⟩ := Ty.opn hv
          have HC2 := Lib.hid (show Chg (fun _ => False) wr w2 from ((Chg.refl (fun _ => False) wr).drew).trans (below_none hb2) (fun _ _ q => q))
          have HCN2 := Lib.hid (HW.out.chg.trans HC2.out (fun _ _ q => q.elim))
          have HUN2 := Lib.hid (HC2.out.heap HU.out id)
          clear hv hb2 y0 y1 y2 y3 y4
          go_wp2_with fail
          refine hK _ _ HCN2.out ?_
          clear hK K
          refine wpT_two rfl rfl (fun K hK => ?_) (fun K hK => ?_)
          case refine_1 =>
            have k5_ : w2.cell? ⟨w.heap.size + 1 + 1, 3, none⟩ = some (.slice A5 k c5) := (cell_at HUN2.out 3).trans rfl
            have l5_ := lt_of_block HUN2.out
            go_wp2_with fail
            clear k5_ l5_
            refine hK _ _ HCN2.out ?_
            clear hK K
            refine wpT_one rfl (fun K hK => ?_)
            go_wp2_with fail
            refine hK _ _ (HCN2.out.alloc _) ?_
            clear hK K
            have HAA := Lib.hid ((Chg.refl (fun _ => False) w2).alloc (.cells #[.int .i64 y.kind, .string y.pkg, .string y.name, .slice B3 y.args.length d3, .slice B4 y.res.length d4] 26))
            have HOA := Lib.hid (show (w2.alloc (.cells #[.int .i64 y.kind, .string y.pkg, .string y.name, .slice B3 y.args.length d3, .slice B4 y.res.length d4] 26)).ownsRow wz.heap.size 26 5 (.slice A5 k c5) k segs.flatten from by have h := own_grows HAA.out (own_grows HC2.out HW.out.own); rw [HLT.out] at h; exact h)
            have HSS := Lib.hid (show wz.heap.size ≤ (w2.alloc (.cells #[.int .i64 y.kind, .string y.pkg, .string y.name, .slice B3 y.args.length d3, .slice B4 y.res.length d4] 26)).heap.size from Nat.le_trans (Nat.le_trans HW.out.chg.size HC2.out.size) HAA.out.size)
            have HNE := Lib.hid (show ∀ (j : Nat) (u : Value), ([.int .i64 y.kind, .string y.pkg, .string y.name, .slice B3 y.args.length d3, .slice B4 y.res.length d4] : List Value)[j]? = some u → (w2.alloc (.cells #[.int .i64 y.kind, .string y.pkg, .string y.name, .slice B3 y.args.length d3, .slice B4 y.res.length d4] 26)).cell? ⟨w2.heap.size, j, none⟩ = some u from fun j u q => by rw [cell_at (alloc_at w2 _)]; simpa using q)
            have HONE := Lib.hid (show ∀ u ∈ ([.int .i64 y.kind, .string y.pkg, .string y.name, .slice B3 y.args.length d3, .slice B4 y.res.length d4] : List Value), u.oneCell' = true from fun u q => by simp at q; rcases q with rfl | rfl | rfl | rfl | rfl <;> rfl)
            have HLN := Lib.hid (show (k + 1) * 88 ≤ 140737488355328 by omega)
            have HLM := Lib.hid (show k + 1 ≤ maxLen by unfold maxLen; omega)
            refine wpT_one rfl (fun K hK => ?_)
            refine wpList_append_rec _ rfl _ _ 24 rfl wz.heap.size 26 (.agg #[.int .i64 0, .string ⟨#[]⟩, .string ⟨#[]⟩, .slice none 0 0, .slice none 0 0]) 5 88 Try.infnTy Try.underlying24 rfl (by omega) (.slice A5 k c5) k segs.flatten rfl HOA.out w2.heap.size 1 ([.int .i64 y.kind, .string y.pkg, .string y.name, .slice B3 y.args.length d3, .slice B4 y.res.length d4]) rfl rfl HNE.out HONE.out HLN.out HLM.out HSS.out ?_
            intro v1 w3 h1 g1 r1
            have HN2 := Lib.hid (EachRowS.next (y := y) (v' := v1) (w' := w3) HW.out HC2.out HV.out rfl HAA.out (by rw [HLT.out]; exact h1) g1 r1)
            obtain ⟨A6, c6, rfl⟩ := own_slice h1
            have HU3 := Lib.hid (show w3.heap[w.heap.size + 1 + 1]? = some (.cells #[.int .i64 t.kind, .string t.pkg, .string t.name, .slice A5 k c5, .slice none 0 0] 26 (0, 0)) from ((HAA.out.mono (S' := fun j => (Value.slice A5 k c5).ownBlock = some j) (fun _ _ q => q.elim)).grown g1 (fun k _ e => e)).heap HUN2.out (fun q => by have := (HW.out.own.lt _ q).1; have := HZS.out; omega))
            clear h1 g1 r1
            go_wp2_with fail
            refine hK _ _ HN2.out.chg ?_
            clear hK K
            apply wpT_get rfl
            · go_simp
            · intro wS hS
              go_simp
              try rfl
            intro K hK
            go_simp
            refine hK _ ?_
            clear hK K
            have HC4 := Lib.hid ((Chg.refl (fun j => j = w.heap.size + 1 + 1) w3).setCell (p := ⟨w.heap.size + 1 + 1, 3, none⟩) (fun _ => rfl) (.slice A6 (k + 1) c6))
            have HN3 := Lib.hid (HN2.out.keep HC4.out)
            have HU4 := Lib.hid (show (w3.setCell ⟨w.heap.size + 1 + 1, 3, none⟩ (.slice A6 (k + 1) c6)).heap[w.heap.size + 1 + 1]? = some (.cells #[.int .i64 t.kind, .string t.pkg, .string t.name, .slice A6 (k + 1) c6, .slice none 0 0] 26 (0, 0)) from set_at HU3.out 3 _)
            have k6_ : w3.cell? ⟨w.heap.size + 1 + 1, 3, none⟩ = some (.slice A5 k c5) := (cell_at HU3.out 3).trans rfl
            have k7_ : w3.frozen? ⟨w.heap.size + 1 + 1, 3, none⟩ = false := free_at HU3.out 3
            refine wpT_one rfl (fun K hK => ?_)
            go_wp2_with fail
            refine hK _ _ HN3.out.chg ?_
            clear hK K k6_ k7_
            refine wpT_doneN ?_
            go_wp2_with fail
            go_roundw
            case rel => exact ⟨k + 1, _, _, by omega, by go_num, HU4.out, by rw [HSN.out, ← HYE.out]; exact HN3.out⟩
            case measure => simp [intOf]; omega
          case refine_2 =>
            go_wp2_with fail
            refine hK _ _ (HCN2.out.alloc _) ?_
            clear hK K
            refine wpT_one rfl (fun K hK => ?_)
            have k5_ : w2.cell? ⟨w.heap.size + 1 + 1, 3, none⟩ = some (.slice A5 k c5) := (cell_at HUN2.out 3).trans rfl
            have l5_ := lt_of_block HUN2.out
            go_wp2_with fail
            clear k5_ l5_
            refine hK _ _ (HCN2.out.alloc _) ?_
            clear hK K
            have HAA := Lib.hid ((Chg.refl (fun _ => False) w2).alloc (.cells #[.int .i64 y.kind, .string y.pkg, .string y.name, .slice B3 y.args.length d3, .slice B4 y.res.length d4] 26))
            have HOA := Lib.hid (show (w2.alloc (.cells #[.int .i64 y.kind, .string y.pkg, .string y.name, .slice B3 y.args.length d3, .slice B4 y.res.length d4] 26)).ownsRow wz.heap.size 26 5 (.slice A5 k c5) k segs.flatten from by have h := own_grows HAA.out (own_grows HC2.out HW.out.own); rw [HLT.out] at h; exact h)
            have HSS := Lib.hid (show wz.heap.size ≤ (w2.alloc (.cells #[.int .i64 y.kind, .string y.pkg, .string y.name, .slice B3 y.args.length d3, .slice B4 y.res.length d4] 26)).heap.size from Nat.le_trans (Nat.le_trans HW.out.chg.size HC2.out.size) HAA.out.size)
            have HNE := Lib.hid (show ∀ (j : Nat) (u : Value), ([.int .i64 y.kind, .string y.pkg, .string y.name, .slice B3 y.args.length d3, .slice B4 y.res.length d4] : List Value)[j]? = some u → (w2.alloc (.cells #[.int .i64 y.kind, .string y.pkg, .string y.name, .slice B3 y.args.length d3, .slice B4 y.res.length d4] 26)).cell? ⟨w2.heap.size, j, none⟩ = some u from fun j u q => by rw [cell_at (alloc_at w2 _)]; simpa using q)
            have HONE := Lib.hid (show ∀ u ∈ ([.int .i64 y.kind, .string y.pkg, .string y.name, .slice B3 y.args.length d3, .slice B4 y.res.length d4] : List Value), u.oneCell' = true from fun u q => by simp at q; rcases q with rfl | rfl | rfl | rfl | rfl <;> rfl)
            have HLN := Lib.hid (show (k + 1) * 88 ≤ 140737488355328 by omega)
            have HLM := Lib.hid (show k + 1 ≤ maxLen by unfold maxLen; omega)
            refine wpT_one rfl (fun K hK => ?_)
            refine wpList_append_rec _ rfl _ _ 24 rfl wz.heap.size 26 (.agg #[.int .i64 0, .string ⟨#[]⟩, .string ⟨#[]⟩, .slice none 0 0, .slice none 0 0]) 5 88 Try.infnTy Try.underlying24 rfl (by omega) (.slice A5 k c5) k segs.flatten rfl HOA.out w2.heap.size 1 ([.int .i64 y.kind, .string y.pkg, .string y.name, .slice B3 y.args.length d3, .slice B4 y.res.length d4]) rfl rfl HNE.out HONE.out HLN.out HLM.out HSS.out ?_
            intro v1 w3 h1 g1 r1
            have HN2 := Lib.hid (EachRowS.next (y := y) (v' := v1) (w' := w3) HW.out HC2.out HV.out rfl HAA.out (by rw [HLT.out]; exact h1) g1 r1)
            obtain ⟨A6, c6, rfl⟩ := own_slice h1
            have HU3 := Lib.hid (show w3.heap[w.heap.size + 1 + 1]? = some (.cells #[.int .i64 t.kind, .string t.pkg, .string t.name, .slice A5 k c5, .slice none 0 0] 26 (0, 0)) from ((HAA.out.mono (S' := fun j => (Value.slice A5 k c5).ownBlock = some j) (fun _ _ q => q.elim)).grown g1 (fun k _ e => e)).heap HUN2.out (fun q => by have := (HW.out.own.lt _ q).1; have := HZS.out; omega))
            clear h1 g1 r1
            go_wp2_with fail
            refine hK _ _ HN2.out.chg ?_
            clear hK K
            apply wpT_get rfl
            · go_simp
            · intro wS hS
              go_simp
              try rfl
            intro K hK
            go_simp
            refine hK _ ?_
            clear hK K
            have HC4 := Lib.hid ((Chg.refl (fun j => j = w.heap.size + 1 + 1) w3).setCell (p := ⟨w.heap.size + 1 + 1, 3, none⟩) (fun _ => rfl) (.slice A6 (k + 1) c6))
            have HN3 := Lib.hid (HN2.out.keep HC4.out)
            have HU4 := Lib.hid (show (w3.setCell ⟨w.heap.size + 1 + 1, 3, none⟩ (.slice A6 (k + 1) c6)).heap[w.heap.size + 1 + 1]? = some (.cells #[.int .i64 t.kind, .string t.pkg, .string t.name, .slice A6 (k + 1) c6, .slice none 0 0] 26 (0, 0)) from set_at HU3.out 3 _)
            have k6_ : w3.cell? ⟨w.heap.size + 1 + 1, 3, none⟩ = some (.slice A5 k c5) := (cell_at HU3.out 3).trans rfl
            have k7_ : w3.frozen? ⟨w.heap.size + 1 + 1, 3, none⟩ = false := free_at HU3.out 3
            refine wpT_one rfl (fun K hK => ?_)
            go_wp2_with fail
            refine hK _ _ HN3.out.chg ?_
            clear hK K k6_ k7_
            refine wpT_doneN ?_
            go_wp2_with fail
            go_roundw
            case rel => exact ⟨k + 1, _, _, by omega, by go_num, HU4.out, by rw [HSN.out, ← HYE.out]; exact HN3.out⟩
            case measure => simp [intOf]; omega
      · obtain rfl : k = t.args.length := by omega
        have hw := HW.out
        rw [List.take_length] at hw
        have HL1 := Lib.hid (rows_sl (xs := t.args.map F) (A := A5) (c := c5) (by rw [List.length_map]; exact hw) (by rw [List.length_map]; unfold Reach; omega))
        have HX1 := Lib.hid hw.chg
        clear hw HLT HW
        obtain ⟨wy, rfl⟩ : ∃ x, x = wr := ⟨_, rfl⟩
        have HYB := Lib.hid (Below.chg HZB.out HX1.out HZB.out.size (fun i hi => by omega))
        have HYT := Lib.hid (HX1.out.heap HZT.out (by show ¬ _ = _; omega))
        have HYR := Lib.hid (HX1.out.heap HZR.out (by show ¬ _ = _; omega))
        have HYU := Lib.hid HU.out
        have HYS := Lib.hid (lt_of_block HU.out)
        clear HU hlt segs
        obtain ⟨D3, hD3⟩ : ∃ x, x = A5 := ⟨_, rfl⟩
        obtain ⟨x3, hx3⟩ : ∃ x, x = c5 := ⟨_, rfl⟩
        subst hD3 hx3
        go_wp2_with fail
        go_loopw [10] (fun i wr => ∃ (k : Nat) (v : Value) (segs : List (List Value)), k ≤ t.res.length ∧ i = .int .i64 k ∧ wr.heap[w.heap.size + 1 + 1]? = some (.cells #[.int .i64 t.kind, .string t.pkg, .string t.name, .slice D3 t.args.length x3, v] 26 (0, 0)) ∧ EachRowS (fun j => j = w.heap.size + 1 + 1) wy wr Ty.d 5 26 v ((t.res.take k).map F) segs) (fun i _ => t.res.length - (intOf i).toNat)
        case atStart => exact ⟨0, _, [], Nat.zero_le _, rfl, HYU.out, EachRowS.start _ (fun j e => by subst e; exact HYS.out) _ _ _⟩
        case round =>
          obtain ⟨k, v, segs, hk, rfl, hu, hw⟩ := hrel
          obtain ⟨A5, c5, hv⟩ := own_slice hw.own
          have hlen : ((t.res.take k).map F).length = k := by simp; omega
          rw [hlen] at hv
          subst hv
          have HLT := Lib.hid hlen
          clear hlen
          have HW := Lib.hid hw; have HU := Lib.hid hu
          clear hw hu
          have t3_ : wr.cell? ⟨w.heap.size, 4, none⟩ = some (.slice A4 t.res.length c4) := (cell_at (HW.out.chg.heap HYT.out (by show ¬ _ = _; omega)) 4).trans rfl
          by_cases hlt : k < t.res.length
          · have hlt' : (k : Int) < t.res.length := by omega
            obtain ⟨bb, oo, hAq, E3, g3, E4, g4, e0, e1, e2, e3, e4, z0, z1, z2, z3, z4⟩ := Ty.at Q4.out.2.2.2 k hlt
            subst hAq
            have hbb : bb < w.heap.size := World.block_lt_of_cell? w (a := ⟨bb, oo + k * 5, none⟩) e0
            have HVX := Lib.hid (Ty.shut (w := w) (t := t.res[k]) z0 z1 z2 z3 z4)
            have HKX := Lib.hid (List.getElem_mem hlt)
            have HSN := Lib.hid (map_take_snoc F t.res k hlt)
            have hsub := Below.sub HYB.out
            have f0 := hsub _ _ e0; have f1 := hsub _ _ e1; have f2 := hsub _ _ e2; have f3 := hsub _ _ e3; have f4 := hsub _ _ e4
            clear hsub e0 e1 e2 e3 e4 z0 z1 z2 z3 z4
            go_wp2_with fail
            refine wp_region_otN (fun wS => Chg (fun j => j = w.heap.size + 1 + 1) wy wS) (.get 0 (.get 2 (.get 3 (.get 4 (.get 5 (.get 6 (.get 7 (.get 8 (.two 1 (.one 9 (.one 10 (.one 11 (.get 12 (.one 13 .done))))) 9 (.two 1 (.one 10 (.one 11 (.get 12 (.one 13 .done)))) 10 (.one 1 (.one 11 (.get 12 (.one 13 .done)))))))))))))) (by kernel_rfl) (by kernel_rfl) HW.out.chg.drew ?_
            apply wpT_get rfl
            · go_simp
            · intro wS hS
              go_simp
              try rfl
            intro K hK
            go_simp
            refine hK _ ?_
            clear hK K
            apply wpT_get rfl
            · go_simp
            · intro wS hS
              go_simp
              try rfl
            intro K hK
            go_simp
            refine hK _ ?_
            clear hK K
            apply wpT_get rfl
            · go_simp
            · intro wS hS
              have x0 := (cell_at (hS.heap HYT.out (by show ¬ _ = _; omega)) 4).trans rfl
              go_simp
              try rfl
            intro K hK
            go_simp
            refine hK _ ?_
            clear hK K
            apply wpT_get rfl
            · go_simp
            · intro wS hS
              go_simp
              try rfl
            intro K hK
            go_simp
            refine hK _ ?_
            clear hK K
            apply wpT_get rfl
            · go_simp
            · intro wS hS
              go_simp
              try rfl
            intro K hK
            go_simp
            refine hK _ ?_
            clear hK K
            apply wpT_get rfl
            · go_simp
            · intro wS hS
              have x0 := hS.cell f0 (fun e => by have e1 : bb = w.heap.size + 1 + 1 := e; omega)
              have x1 := hS.cell f1 (fun e => by have e1 : bb = w.heap.size + 1 + 1 := e; omega)
              have x2 := hS.cell f2 (fun e => by have e1 : bb = w.heap.size + 1 + 1 := e; omega)
              have x3 := hS.cell f3 (fun e => by have e1 : bb = w.heap.size + 1 + 1 := e; omega)
              have x4 := hS.cell f4 (fun e => by have e1 : bb = w.heap.size + 1 + 1 := e; omega)
              go_simp
              try rfl
            intro K hK
            go_simp
            refine hK _ ?_
            clear hK K
            apply wpT_get rfl
            · go_simp
            · intro wS hS
              go_simp
              try rfl
            intro K hK
            go_simp
            refine hK _ ?_
            clear hK K
            apply wpT_get rfl
            · go_simp
            · intro wS hS
              go_simp
              try rfl
            intro K hK
            go_simp
            refine hK _ ?_
            clear hK K
            have HCN := Lib.hid HW.out.chg.drew
            have HBN := Lib.hid (show Below w.heap.size w wr.drew from Below.chg HYB.out HCN.out HYB.out.size (fun i hi => by omega))
            refine wpT_two rfl rfl (fun K hK => ?_) (fun K hK => ?_)
            case refine_1 =>
              have k5_ : wr.cell? ⟨w.heap.size + 1 + 1, 4, none⟩ = some (.slice A5 k c5) := (cell_at HU.out 4).trans rfl
              have l5_ := lt_of_block HU.out
              go_wp2_with fail
              clear k5_ l5_
              refine hK _ _ HCN.out ?_
              clear hK K
              refine wpT_one rfl (fun K hK => ?_)
              go_wp2_with fail
              refine (OC4.out _ HKX.out wr.drew _ _ _ _ _ (HVX.out.sub (Below.sub HBN.out)) (HNM.out.sub (Below.sub HBN.out)) (HTS.out.sub (Below.sub HBN.out))).mono ?_
              obtain ⟨y, hy⟩ : ∃ y, y = putTy names ts t.res[k] := ⟨_, rfl⟩
              rw [← hy]
              have HYE := Lib.hid (show y = F t.res[k] by rw [HFF.out]; exact hy)
              clear hy
              rintro e w2 ⟨vs, rfl, hv, hb2⟩
              have HV := Lib.hid (show Vals (NewW wr.heap.size none w2) y.d vs from hv)
              obtain ⟨B3, d3, B4, d4, rfl, y0, y1, y2, y3, y4⟩ := Ty.opn hv
              have HC2 := Lib.hid (show Chg (fun _ => False) wr w2 from ((Chg.refl (fun _ => False) wr).drew).trans (below_none hb2) (fun _ _ q => q))
              have HCN2 := Lib.hid (HW.out.chg.trans HC2.out (fun _ _ q => q.elim))
              have HUN2 := Lib.hid (HC2.out.heap HU.out id)
              clear hv hb2 y0 y1 y2 y3 y4
              go_wp2_with fail
              refine hK _ _ HCN2.out ?_
              clear hK K
              refine wpT_one rfl (fun K hK => ?_)
              go_wp2_with fail
              refine hK _ _ (HCN2.out.alloc _) ?_
              clear hK K
              have HAA := Lib.hid ((Chg.refl (fun _ => False) w2).alloc (.cells #[.int .i64 y.kind, .string y.pkg, .string y.name, .slice B3 y.args.length d3, .slice B4 y.res.length d4] 26))
              have HOA := Lib.hid (show (w2.alloc (.cells #[.int .i64 y.kind, .string y.pkg, .string y.name, .slice B3 y.args.length d3, .slice B4 y.res.length d4] 26)).ownsRow wy.heap.size 26 5 (.slice A5 k c5) k segs.flatten from by have h := own_grows HAA.out (own_grows HC2.out HW.out.own); rw [HLT.out] at h; exact h)
              have HSS := Lib.hid (show wy.heap.size ≤ (w2.alloc (.cells #[.int .i64 y.kind, .string y.pkg, .string y.name, .slice B3 y.args.length d3, .slice B4 y.res.length d4] 26)).heap.size from Nat.le_trans (Nat.le_trans HW.out.chg.size HC2.out.size) HAA.out.size)
              have HNE := Lib.hid (show ∀ (j : Nat) (u : Value), ([.int .i64 y.kind, .string y.pkg, .string y.name, .slice B3 y.args.length d3, .slice B4 y.res.length d4] : List Value)[j]? = some u → (w2.alloc (.cells #[.int .i64 y.kind, .string y.pkg, .string y.name, .slice B3 y.args.length d3, .slice B4 y.res.length d4] 26)).cell? ⟨w2.heap.size, j, none⟩ = some u from fun j u q => by rw [cell_at (alloc_at w2 _)]; simpa using q)
              have HONE := Lib.hid (show ∀ u ∈ ([.int .i64 y.kind, .string y.pkg, .string y.name, .slice B3 y.args.length d3, .slice B4 y.res.length d4] : List Value), u.oneCell' = true from fun u q => by simp at q; rcases q with rfl | rfl | rfl | rfl | rfl <;> rfl)
              have HLN := Lib.hid (show (k + 1) * 88 ≤ 140737488355328 by omega)
              have HLM := Lib.hid (show k + 1 ≤ maxLen by unfold maxLen; omega)
              refine wpT_one rfl (fun K hK => ?_)
              refine wpList_append_rec _ rfl _ _ 24 rfl wy.heap.size 26 (.agg #[.int .i64 0, .string ⟨#[]⟩, .string ⟨#[]⟩, .slice none 0 0, .slice none 0 0]) 5 88 Try.infnTy Try.underlying24 rfl (by omega) (.slice A5 k c5) k segs.flatten rfl HOA.out w2.heap.size 1 ([.int .i64 y.kind, .string y.pkg, .string y.name, .slice B3 y.args.length d3, .slice B4 y.res.length d4]) rfl rfl HNE.out HONE.out HLN.out HLM.out HSS.out ?_
              intro v1 w3 h1 g1 r1
              have HN2 := Lib.hid (EachRowS.next (y := y) (v' := v1) (w' := w3) HW.out HC2.out HV.out rfl HAA.out (by rw [HLT.out]; exact h1) g1 r1)
              obtain ⟨A6, c6, rfl⟩ := own_slice h1
              have HU3 := Lib.hid (show w3.heap[w.heap.size + 1 + 1]? = some (.cells #[.int .i64 t.kind, .string t.pkg, .string t.name, .slice D3 t.args.length x3, .slice A5 k c5] 26 (0, 0)) from ((HAA.out.mono (S' := fun j => (Value.slice A5 k c5).ownBlock = some j) (fun _ _ q => q.elim)).grown g1 (fun k _ e => e)).heap HUN2.out (fun q => by have := (HW.out.own.lt _ q).1; have := HYS.out; omega))
              clear h1 g1 r1
              go_wp2_with fail
              refine hK _ _ HN2.out.chg ?_
              clear hK K
              apply wpT_get rfl
              · go_simp
              · intro wS hS
                go_simp
                try rfl
              intro K hK
              go_simp
              refine hK _ ?_
              clear hK K
              have HC4 := Lib.hid ((Chg.refl (fun j => j = w.heap.size + 1 + 1) w3).setCell (p := ⟨w.heap.size + 1 + 1, 4, none⟩) (fun _ => rfl) (.slice A6 (k + 1) c6))
              have HN3 := Lib.hid (HN2.out.keep HC4.out)
              have HU4 := Lib.hid (show (w3.setCell ⟨w.heap.size + 1 + 1, 4, none⟩ (.slice A6 (k + 1) c6)).heap[w.heap.size + 1 + 1]? = some (.cells #[.int .i64 t.kind, .string t.pkg, .string t.name, .slice D3 t.args.length x3, .slice A6 (k + 1) c6] 26 (0, 0)) from set_at HU3.out 4 _)
              have k6_ : w3.cell? ⟨w.heap.size + 1 + 1, 4, none⟩ = some (.slice A5 k c5) := (cell_at HU3.out 4).trans rfl
              have k7_ : w3.frozen? ⟨w.heap.size + 1 + 1, 4, none⟩ = false := free_at HU3.out 4
              refine wpT_one rfl (fun K hK => ?_)
              go_wp2_with fail
              refine hK _ _ HN3.out.chg ?_
              clear hK K k6_ k7_
              refine wpT_doneN ?_
              go_wp2_with fail
              go_roundw
              case rel => exact ⟨k + 1, _, _, by omega, by go_num, HU4.out, by rw [HSN.out, ← HYE.out]; exact HN3.out⟩
              case measure => simp [intOf]; omega
            case refine_2 =>
              go_wp2_with fail
              refine (OC4.out _ HKX.out wr.drew _ _ _ _ _ (HVX.out.sub (Below.sub HBN.out)) (HNM.out.sub (Below.sub HBN.out)) (HTS.out.sub (Below.sub HBN.out))).mono ?_
              obtain ⟨y, hy⟩ : ∃ y, y = putTy names ts t.res[k] := ⟨_, rfl⟩
              rw [← hy]
              have HYE := Lib.hid (show y = F t.res[k] by rw [HFF.out]; exact hy)
              clear hy
              rintro e w2 ⟨vs, rfl, hv, hb2⟩
              have HV := Lib.hid (show Vals (NewW wr.heap.size none w2) y.d vs from hv)
              obtain ⟨B3, d3, B4, d4, rfl, y0, y1, y2, y3, y4⟩ := Ty.opn hv
              have HC2 := Lib.hid (show Chg (fun _ => False) wr w2 from ((Chg.refl (fun _ => False) wr).drew).trans (below_none hb2) (fun _ _ q => q))
              have HCN2 := Lib.hid (HW.out.chg.trans HC2.out (fun _ _ q => q.elim))
              have HUN2 := Lib.hid (HC2.out.heap HU.out id)
              clear hv hb2 y0 y1 y2 y3 y4
              go_wp2_with fail
              refine hK _ _ HCN2.out ?_
              clear hK K
              refine wpT_two rfl rfl (fun K hK => ?_) (fun K hK => ?_)
              case refine_1 =>
                have k5_ : w2.cell? ⟨w.heap.size + 1 + 1, 4, none⟩ = some (.slice A5 k c5) := (cell_at HUN2.out 4).trans rfl
                have l5_ := lt_of_block HUN2.out
                go_wp2_with fail
                clear k5_ l5_
                refine hK _ _ HCN2.out ?_
                clear hK K
                refine wpT_one rfl (fun K hK => ?_)
                go_wp2_with fail
                refine hK _ _ (HCN2.out.alloc _) ?_
                clear hK K
                have HAA := Lib.hid ((Chg.refl (fun _ => False) w2).alloc (.cells #[.int .i64 y.kind, .string y.pkg, .string y.name, .slice B3 y.args.length d3, .slice B4 y.res.length d4] 26))
                have HOA := Lib.hid (show (w2.alloc (.cells #[.int .i64 y.kind, .string y.pkg, .string y.name, .slice B3 y.args.length d3, .slice B4 y.res.length d4] 26)).ownsRow wy.heap.size 26 5 (.slice A5 k c5) k segs.flatten from by have h := own_grows HAA.out (own_grows HC2.out HW.out.own); rw [HLT.out] at h; exact h)
                have HSS := Lib.hid (show wy.heap.size ≤ (w2.alloc (.cells #[.int .i64 y.kind, .string y.pkg, .string y.name, .slice B3 y.args.length d3, .slice B4 y.res.length d4] 26)).heap.size from Nat.le_trans (Nat.le_trans HW.out.chg.size HC2.out.size) HAA.out.size)
                have HNE := Lib.hid (show ∀ (j : Nat) (u : Value), ([.int .i64 y.kind, .string y.pkg, .string y.name, .slice B3 y.args.length d3, .slice B4 y.res.length d4] : List Value)[j]? = some u → (w2.alloc (.cells #[.int .i64 y.kind, .string y.pkg, .string y.name, .slice B3 y.args.length d3, .slice B4 y.res.length d4] 26)).cell? ⟨w2.heap.size, j, none⟩ = some u from fun j u q => by rw [cell_at (alloc_at w2 _)]; simpa using q)
                have HONE := Lib.hid (show ∀ u ∈ ([.int .i64 y.kind, .string y.pkg, .string y.name, .slice B3 y.args.length d3, .slice B4 y.res.length d4] : List Value), u.oneCell' = true from fun u q => by simp at q; rcases q with rfl | rfl | rfl | rfl | rfl <;> rfl)
                have HLN := Lib.hid (show (k + 1) * 88 ≤ 140737488355328 by omega)
                have HLM := Lib.hid (show k + 1 ≤ maxLen by unfold maxLen; omega)
                refine wpT_one rfl (fun K hK => ?_)
                refine wpList_append_rec _ rfl _ _ 24 rfl wy.heap.size 26 (.agg #[.int .i64 0, .string ⟨#[]⟩, .string ⟨#[]⟩, .slice none 0 0, .slice none 0 0]) 5 88 Try.infnTy Try.underlying24 rfl (by omega) (.slice A5 k c5) k segs.flatten rfl HOA.out w2.heap.size 1 ([.int .i64 y.kind, .string y.pkg, .string y.name, .slice B3 y.args.length d3, .slice B4 y.res.length d4]) rfl rfl HNE.out HONE.out HLN.out HLM.out HSS.out ?_
                intro v1 w3 h1 g1 r1
                have HN2 := Lib.hid (EachRowS.next (y := y) (v' := v1) (w' := w3) HW.out HC2.out HV.out rfl HAA.out (by rw [HLT.out]; exact h1) g1 r1)
                obtain ⟨A6, c6, rfl⟩ := own_slice h1
                have HU3 := Lib.hid (show w3.heap[w.heap.size + 1 + 1]? = some (.cells #[.int .i64 t.kind, .string t.pkg, .string t.name, .slice D3 t.args.length x3, .slice A5 k c5] 26 (0, 0)) from ((HAA.out.mono (S' := fun j => (Value.slice A5 k c5).ownBlock = some j) (fun _ _ q => q.elim)).grown g1 (fun k _ e => e)).heap HUN2.out (fun q => by have := (HW.out.own.lt _ q).1; have := HYS.out; omega))
                clear h1 g1 r1
                go_wp2_with fail
                refine hK _ _ HN2.out.chg ?_
                clear hK K
                apply wpT_get rfl
                · go_simp
                · intro wS hS
                  go_simp
                  try rfl
                intro K hK
                go_simp
                refine hK _ ?_
                clear hK K
                have HC4 := Lib.hid ((Chg.refl (fun j => j = w.heap.size + 1 + 1) w3).setCell (p := ⟨w.heap.size + 1 + 1, 4, none⟩) (fun _ => rfl) (.slice A6 (k + 1) c6))
                have HN3 := Lib.hid (HN2.out.keep HC4.out)
                have HU4 := Lib.hid (show (w3.setCell ⟨w.heap.size + 1 + 1, 4, none⟩ (.slice A6 (k + 1) c6)).heap[w.heap.size + 1 + 1]? = some (.cells #[.int .i64 t.kind, .string t.pkg, .string t.name, .slice D3 t.args.length x3, .slice A6 (k + 1) c6] 26 (0, 0)) from set_at HU3.out 4 _)
                have k6_ : w3.cell? ⟨w.heap.size + 1 + 1, 4, none⟩ = some (.slice A5 k c5) := (cell_at HU3.out 4).trans rfl
                have k7_ : w3.frozen? ⟨w.heap.size + 1 + 1, 4, none⟩ = false := free_at HU3.out 4
                refine wpT_one rfl (fun K hK => ?_)
                go_wp2_with fail
                refine hK _ _ HN3.out.chg ?_
                clear hK K k6_ k7_
                refine wpT_doneN ?_
                go_wp2_with fail
                go_roundw
                case rel => exact ⟨k + 1, _, _, by omega, by go_num, HU4.out, by rw [HSN.out, ← HYE.out]; exact HN3.out⟩
                case measure => simp [intOf]; omega
              case refine_2 =>
                go_wp2_with fail
                refine hK _ _ (HCN2.out.alloc _) ?_
                clear hK K
                refine wpT_one rfl (fun K hK => ?_)
                have k5_ : w2.cell? ⟨w.heap.size + 1 + 1, 4, none⟩ = some (.slice A5 k c5) := (cell_at HUN2.out 4).trans rfl
                have l5_ := lt_of_block HUN2.out
                go_wp2_with fail
                clear k5_ l5_
                refine hK _ _ (HCN2.out.alloc _) ?_
                clear hK K
                have HAA := Lib.hid ((Chg.refl (fun _ => False) w2).alloc (.cells #[.int .i64 y.kind, .string y.pkg, .string y.name, .slice B3 y.args.length d3, .slice B4 y.res.length d4] 26))
                have HOA := Lib.hid (show (w2.alloc (.cells #[.int .i64 y.kind, .string y.pkg, .string y.name, .slice B3 y.args.length d3, .slice B4 y.res.length d4] 26)).ownsRow wy.heap.size 26 5 (.slice A5 k c5) k segs.flatten from by have h := own_grows HAA.out (own_grows HC2.out HW.out.own); rw [HLT.out] at h; exact h)
                have HSS := Lib.hid (show wy.heap.size ≤ (w2.alloc (.cells #[.int .i64 y.kind, .string y.pkg, .string y.name, .slice B3 y.args.length d3, .slice B4 y.res.length d4] 26)).heap.size from Nat.le_trans (Nat.le_trans HW.out.chg.size HC2.out.size) HAA.out.size)
                have HNE := Lib.hid (show ∀ (j : Nat) (u : Value), ([.int .i64 y.kind, .string y.pkg, .string y.name, .slice B3 y.args.length d3, .slice B4 y.res.length d4] : List Value)[j]? = some u → (w2.alloc (.cells #[.int .i64 y.kind, .string y.pkg, .string y.name, .slice B3 y.args.length d3, .slice B4 y.res.length d4] 26)).cell? ⟨w2.heap.size, j, none⟩ = some u from fun j u q => by rw [cell_at (alloc_at w2 _)]; simpa using q)
                have HONE := Lib.hid (show ∀ u ∈ ([.int .i64 y.kind, .string y.pkg, .string y.name, .slice B3 y.args.length d3, .slice B4 y.res.length d4] : List Value), u.oneCell' = true from fun u q => by simp at q; rcases q with rfl | rfl | rfl | rfl | rfl <;> rfl)
                have HLN := Lib.hid (show (k + 1) * 88 ≤ 140737488355328 by omega)
                have HLM := Lib.hid (show k + 1 ≤ maxLen by unfold maxLen; omega)
                refine wpT_one rfl (fun K hK => ?_)
                refine wpList_append_rec _ rfl _ _ 24 rfl wy.heap.size 26 (.agg #[.int .i64 0, .string ⟨#[]⟩, .string ⟨#[]⟩, .slice none 0 0, .slice none 0 0]) 5 88 Try.infnTy Try.underlying24 rfl (by omega) (.slice A5 k c5) k segs.flatten rfl HOA.out w2.heap.size 1 ([.int .i64 y.kind, .string y.pkg, .string y.name, .slice B3 y.args.length d3, .slice B4 y.res.length d4]) rfl rfl HNE.out HONE.out HLN.out HLM.out HSS.out ?_
                intro v1 w3 h1 g1 r1
                have HN2 := Lib.hid (EachRowS.next (y := y) (v' := v1) (w' := w3) HW.out HC2.out HV.out rfl HAA.out (by rw [HLT.out]; exact h1) g1 r1)
                obtain ⟨A6, c6, rfl⟩ := own_slice h1
                have HU3 := Lib.hid (show w3.heap[w.heap.size + 1 + 1]? = some (.cells #[.int .i64 t.kind, .string t.pkg, .string t.name, .slice D3 t.args.length x3, .slice A5 k c5] 26 (0, 0)) from ((HAA.out.mono (S' := fun j => (Value.slice A5 k c5).ownBlock = some j) (fun _ _ q => q.elim)).grown g1 (fun k _ e => e)).heap HUN2.out (fun q => by have := (HW.out.own.lt _ q).1; have := HYS.out; omega))
                clear h1 g1 r1
                go_wp2_with fail
                refine hK _ _ HN2.out.chg ?_
                clear hK K
                apply wpT_get rfl
                · go_simp
                · intro wS hS
                  go_simp
                  try rfl
                intro K hK
                go_simp
                refine hK _ ?_
                clear hK K
                have HC4 := Lib.hid ((Chg.refl (fun j => j = w.heap.size + 1 + 1) w3).setCell (p := ⟨w.heap.size + 1 + 1, 4, none⟩) (fun _ => rfl) (.slice A6 (k + 1) c6))
                have HN3 := Lib.hid (HN2.out.keep HC4.out)
                have HU4 := Lib.hid (show (w3.setCell ⟨w.heap.size + 1 + 1, 4, none⟩ (.slice A6 (k + 1) c6)).heap[w.heap.size + 1 + 1]? = some (.cells #[.int .i64 t.kind, .string t.pkg, .string t.name, .slice D3 t.args.length x3, .slice A6 (k + 1) c6] 26 (0, 0)) from set_at HU3.out 4 _)
                have k6_ : w3.cell? ⟨w.heap.size + 1 + 1, 4, none⟩ = some (.slice A5 k c5) := (cell_at HU3.out 4).trans rfl
                have k7_ : w3.frozen? ⟨w.heap.size + 1 + 1, 4, none⟩ = false := free_at HU3.out 4
                refine wpT_one rfl (fun K hK => ?_)
                go_wp2_with fail
                refine hK _ _ HN3.out.chg ?_
                clear hK K k6_ k7_
                refine wpT_doneN ?_
                go_wp2_with fail
                go_roundw
                case rel => exact ⟨k + 1, _, _, by omega, by go_num, HU4.out, by rw [HSN.out, ← HYE.out]; exact HN3.out⟩
                case measure => simp [intOf]; omega
          · obtain rfl : k = t.res.length := by omega
            have hw := HW.out
            rw [List.take_length] at hw
            have HL2 := Lib.hid (rows_sl (xs := t.res.map F) (A := A5) (c := c5) (by rw [List.length_map]; exact hw) (by rw [List.length_map]; unfold Reach; omega))
            have HX2 := Lib.hid hw.chg
            clear hw HLT HW
            have HRR := Lib.hid (HX2.out.heap HYR.out (by show ¬ _ = _; omega))
            have HBB := Lib.hid (Below.chg HYB.out HX2.out HYB.out.size (fun i hi => by omega))
            have HL3 := Lib.hid (HL1.out.later HX2.out (fun k q => by rw [q]; exact HZS.out))
            have hzl := HZB.out.size; have hyl := HYB.out.size; have hzs := HZS.out
            have u0_ : wr.cell? ⟨w.heap.size + 1 + 1, 0, none⟩ = some (.int .i64 t.kind) := (cell_at HU.out 0).trans rfl
            have r0_ : wr.cell? ⟨w.heap.size + 1, 0, none⟩ = some (.int .i64 0) := (cell_at HRR.out 0).trans rfl
            have s0_ : wr.frozen? ⟨w.heap.size + 1, 0, none⟩ = false := free_at HRR.out 0
            have u1_ : wr.cell? ⟨w.heap.size + 1 + 1, 1, none⟩ = some (.string t.pkg) := (cell_at HU.out 1).trans rfl
            have r1_ : wr.cell? ⟨w.heap.size + 1, 1, none⟩ = some (.string ⟨#[]⟩) := (cell_at HRR.out 1).trans rfl
            have s1_ : wr.frozen? ⟨w.heap.size + 1, 1, none⟩ = false := free_at HRR.out 1
            have u2_ : wr.cell? ⟨w.heap.size + 1 + 1, 2, none⟩ = some (.string t.name) := (cell_at HU.out 2).trans rfl
            have r2_ : wr.cell? ⟨w.heap.size + 1, 2, none⟩ = some (.string ⟨#[]⟩) := (cell_at HRR.out 2).trans rfl
            have s2_ : wr.frozen? ⟨w.heap.size + 1, 2, none⟩ = false := free_at HRR.out 2
            have u3_ : wr.cell? ⟨w.heap.size + 1 + 1, 3, none⟩ = some (.slice D3 t.args.length x3) := (cell_at HU.out 3).trans rfl
            have r3_ : wr.cell? ⟨w.heap.size + 1, 3, none⟩ = some (.slice none 0 0) := (cell_at HRR.out 3).trans rfl
            have s3_ : wr.frozen? ⟨w.heap.size + 1, 3, none⟩ = false := free_at HRR.out 3
            have u4_ : wr.cell? ⟨w.heap.size + 1 + 1, 4, none⟩ = some (.slice A5 t.res.length c5) := (cell_at HU.out 4).trans rfl
            have r4_ : wr.cell? ⟨w.heap.size + 1, 4, none⟩ = some (.slice none 0 0) := (cell_at HRR.out 4).trans rfl
            have s4_ : wr.frozen? ⟨w.heap.size + 1, 4, none⟩ = false := free_at HRR.out 4
            have h0_ : (wr.setCell ⟨w.heap.size + 1, 0, none⟩ (.int .i64 t.kind)).heap[w.heap.size + 1]? = some (.cells #[.int .i64 t.kind, .string ⟨#[]⟩, .string ⟨#[]⟩, .slice none 0 0, .slice none 0 0] 26 (0, 0)) := set_at HRR.out 0 (.int .i64 t.kind)
            have h1_ : ((wr.setCell ⟨w.heap.size + 1, 0, none⟩ (.int .i64 t.kind)).setCell ⟨w.heap.size + 1, 1, none⟩ (.string t.pkg)).heap[w.heap.size + 1]? = some (.cells #[.int .i64 t.kind, .string t.pkg, .string ⟨#[]⟩, .slice none 0 0, .slice none 0 0] 26 (0, 0)) := set_at h0_ 1 (.string t.pkg)
            have h2_ : (((wr.setCell ⟨w.heap.size + 1, 0, none⟩ (.int .i64 t.kind)).setCell ⟨w.heap.size + 1, 1, none⟩ (.string t.pkg)).setCell ⟨w.heap.size + 1, 2, none⟩ (.string t.name)).heap[w.heap.size + 1]? = some (.cells #[.int .i64 t.kind, .string t.pkg, .string t.name, .slice none 0 0, .slice none 0 0] 26 (0, 0)) := set_at h1_ 2 (.string t.name)
            have h3_ : ((((wr.setCell ⟨w.heap.size + 1, 0, none⟩ (.int .i64 t.kind)).setCell ⟨w.heap.size + 1, 1, none⟩ (.string t.pkg)).setCell ⟨w.heap.size + 1, 2, none⟩ (.string t.name)).setCell ⟨w.heap.size + 1, 3, none⟩ (.slice D3 t.args.length x3)).heap[w.heap.size + 1]? = some (.cells #[.int .i64 t.kind, .string t.pkg, .string t.name, .slice D3 t.args.length x3, .slice none 0 0] 26 (0, 0)) := set_at h2_ 3 (.slice D3 t.args.length x3)
            have h4_ : (((((wr.setCell ⟨w.heap.size + 1, 0, none⟩ (.int .i64 t.kind)).setCell ⟨w.heap.size + 1, 1, none⟩ (.string t.pkg)).setCell ⟨w.heap.size + 1, 2, none⟩ (.string t.name)).setCell ⟨w.heap.size + 1, 3, none⟩ (.slice D3 t.args.length x3)).setCell ⟨w.heap.size + 1, 4, none⟩ (.slice A5 t.res.length c5)).heap[w.heap.size + 1]? = some (.cells #[.int .i64 t.kind, .string t.pkg, .string t.name, .slice D3 t.args.length x3, .slice A5 t.res.length c5] 26 (0, 0)) := set_at h3_ 4 (.slice A5 t.res.length c5)
            have hset : Chg (fun k => k = w.heap.size + 1) wr (((((wr.setCell ⟨w.heap.size + 1, 0, none⟩ (.int .i64 t.kind)).setCell ⟨w.heap.size + 1, 1, none⟩ (.string t.pkg)).setCell ⟨w.heap.size + 1, 2, none⟩ (.string t.name)).setCell ⟨w.heap.size + 1, 3, none⟩ (.slice D3 t.args.length x3)).setCell ⟨w.heap.size + 1, 4, none⟩ (.slice A5 t.res.length c5)) := ((((((Chg.refl (fun k => k = w.heap.size + 1) wr).setCell (p := ⟨w.heap.size + 1, 0, none⟩) (fun _ => rfl) (.int .i64 t.kind)).setCell (p := ⟨w.heap.size + 1, 1, none⟩) (fun _ => rfl) (.string t.pkg)).setCell (p := ⟨w.heap.size + 1, 2, none⟩) (fun _ => rfl) (.string t.name)).setCell (p := ⟨w.heap.size + 1, 3, none⟩) (fun _ => rfl) (.slice D3 t.args.length x3)).setCell (p := ⟨w.heap.size + 1, 4, none⟩) (fun _ => rfl) (.slice A5 t.res.length c5))
            have hd : ∀ (i : Nat) (v : Value), ([.int .i64 t.kind, .string t.pkg, .string t.name, .slice D3 t.args.length x3, .slice A5 t.res.length c5] : List Value)[i]? = some v → (((((wr.setCell ⟨w.heap.size + 1, 0, none⟩ (.int .i64 t.kind)).setCell ⟨w.heap.size + 1, 1, none⟩ (.string t.pkg)).setCell ⟨w.heap.size + 1, 2, none⟩ (.string t.name)).setCell ⟨w.heap.size + 1, 3, none⟩ (.slice D3 t.args.length x3)).setCell ⟨w.heap.size + 1, 4, none⟩ (.slice A5 t.res.length c5)).cell? ⟨w.heap.size + 1, i, none⟩ = some v := fun i v q => by rw [cell_at h4_]; simpa using q
            have HD := Lib.hid hd
            have HF := Lib.hid (Below.chg HBB.out hset HBB.out.size (fun i q => by omega))
            have HL3 := Lib.hid ((HL3.out.later hset (fun k q => by omega)).low (n' := w.heap.size) hzl)
            have HL4 := Lib.hid ((HL2.out.later hset (fun k q => by have := HYS.out; omega)).low (n' := w.heap.size) hyl)
            clear hd hset h0_ h1_ h2_ h3_ h4_
            go_wp2_with fail
            refine bodyPost_ret (v := .agg #[.int .i64 t.kind, .string t.pkg, .string t.name, .slice D3 t.args.length x3, .slice A5 t.res.length c5]) (by have d0 := HD.out 0 _ rfl; have d1 := HD.out 1 _ rfl; have d2 := HD.out 2 _ rfl; have d3_ := HD.out 3 _ rfl; have d4_ := HD.out 4 _ rfl; simp [results, Try.results28, go_sem, d0, d1, d2, d3_, d4_]) rfl ?_
            refine ⟨_, rfl, ?_, HF.out⟩
            rw [HEQ.out, ← HFF.out]
            have hl3 := HL3.out
            have hl4 := HL4.out
            rw [List.length_map] at hl3 hl4
            have := Ty.shut (w := NewW w.heap.size none _) (t := .mk t.kind t.pkg t.name (t.args.map F) (t.res.map F)) Q0.out Q1.out Q2.out (by simp only [Ty.args, List.length_map]; exact hl3) (by simp only [Ty.res, List.length_map]; exact hl4)
            simpa only [Ty.args, Ty.res, Ty.kind, Ty.pkg, Ty.name, List.length_map] using this

set_option maxRecDepth 100000 in
set_option maxHeartbeats 3200000 in
theorem rcopy_of {t : Ty} (hs : RPutC [] [] t) (hid : putTy [] [] t = t) : RCopC t := by
  intro w vs hv
  obtain ⟨A3, c3, A4, c4, rfl, q0, q1, q2, q3, q4⟩ := Ty.opn hv
  have HB0 := Lib.hid (show Below w.heap.size w ((w.alloc (.cells #[.int .i64 t.kind, .string t.pkg, .string t.name, .slice A3 t.args.length c3, .slice A4 t.res.length c4] 26)).alloc (.cells #[.int .i64 0, .string ⟨#[]⟩, .string ⟨#[]⟩, .slice none 0 0, .slice none 0 0] 26)) from ((Below.refl w.heap.size w).alloc (Nat.le_refl _) _).alloc (by simp) _)
  have hbr := alloc_at (w.alloc (.cells #[.int .i64 t.kind, .string t.pkg, .string t.name, .slice A3 t.args.length c3, .slice A4 t.res.length c4] 26)) (.cells #[.int .i64 0, .string ⟨#[]⟩, .string ⟨#[]⟩, .slice none 0 0, .slice none 0 0] 26)
  rw [World.size_alloc] at hbr
  have HBR0 := Lib.hid (show ((w.alloc (.cells #[.int .i64 t.kind, .string t.pkg, .string t.name, .slice A3 t.args.length c3, .slice A4 t.res.length c4] 26)).alloc (.cells #[.int .i64 0, .string ⟨#[]⟩, .string ⟨#[]⟩, .slice none 0 0, .slice none 0 0] 26)).heap[w.heap.size + 1]? = some (.cells #[.int .i64 0, .string ⟨#[]⟩, .string ⟨#[]⟩, .slice none 0 0, .slice none 0 0] 26 (0, 0)) from hbr)
  have HCP := Lib.hid (hs ((w.alloc (.cells #[.int .i64 t.kind, .string t.pkg, .string t.name, .slice A3 t.args.length c3, .slice A4 t.res.length c4] 26)).alloc (.cells #[.int .i64 0, .string ⟨#[]⟩, .string ⟨#[]⟩, .slice none 0 0, .slice none 0 0] 26)) _ none 0 none 0 (hv.sub (Below.sub HB0.out)) ⟨rfl, Nat.le_refl _, Nat.zero_le _, by simp only [strs, List.map_nil, Elems]⟩ ⟨rfl, Nat.le_refl _, Nat.zero_le _, by simp only [Ty.ds, Elems]⟩)
  have HEQ := Lib.hid hid
  clear hv hbr q0 q1 q2 q3 q4 hs hid
  go_enter Try.func25, Try.ntmps25
  go_wp2_with fail
  refine HCP.out.mono ?_
  rintro e w2 ⟨vs2, rfl, hv2, hb2⟩
  rw [HEQ.out] at hv2
  have HV2 := Lib.hid hv2
  obtain ⟨B3, d3, B4, d4, rfl, y0, y1, y2, y3, y4⟩ := Ty.opn hv2
  have HBR2 := Lib.hid ((hb2.block _ (lt_of_block HBR0.out)).trans HBR0.out)
  have HB2 := Lib.hid (HB0.out.trans (hb2.mono HB0.out.size))
  clear hv2 hb2 y0 y1 y2 y3 y4
  have r0_ : w2.cell? ⟨w.heap.size + 1, 0, none⟩ = some (.int .i64 0) := (cell_at HBR2.out 0).trans rfl
  have s0_ : w2.frozen? ⟨w.heap.size + 1, 0, none⟩ = false := free_at HBR2.out 0
  have r1_ : w2.cell? ⟨w.heap.size + 1, 1, none⟩ = some (.string ⟨#[]⟩) := (cell_at HBR2.out 1).trans rfl
  have s1_ : w2.frozen? ⟨w.heap.size + 1, 1, none⟩ = false := free_at HBR2.out 1
  have r2_ : w2.cell? ⟨w.heap.size + 1, 2, none⟩ = some (.string ⟨#[]⟩) := (cell_at HBR2.out 2).trans rfl
  have s2_ : w2.frozen? ⟨w.heap.size + 1, 2, none⟩ = false := free_at HBR2.out 2
  have r3_ : w2.cell? ⟨w.heap.size + 1, 3, none⟩ = some (.slice none 0 0) := (cell_at HBR2.out 3).trans rfl
  have s3_ : w2.frozen? ⟨w.heap.size + 1, 3, none⟩ = false := free_at HBR2.out 3
  have r4_ : w2.cell? ⟨w.heap.size + 1, 4, none⟩ = some (.slice none 0 0) := (cell_at HBR2.out 4).trans rfl
  have s4_ : w2.frozen? ⟨w.heap.size + 1, 4, none⟩ = false := free_at HBR2.out 4
  have h0_ : (w2.setCell ⟨w.heap.size + 1, 0, none⟩ (.int .i64 t.kind)).heap[w.heap.size + 1]? = some (.cells #[.int .i64 t.kind, .string ⟨#[]⟩, .string ⟨#[]⟩, .slice none 0 0, .slice none 0 0] 26 (0, 0)) := set_at HBR2.out 0 (.int .i64 t.kind)
  have h1_ : ((w2.setCell ⟨w.heap.size + 1, 0, none⟩ (.int .i64 t.kind)).setCell ⟨w.heap.size + 1, 1, none⟩ (.string t.pkg)).heap[w.heap.size + 1]? = some (.cells #[.int .i64 t.kind, .string t.pkg, .string ⟨#[]⟩, .slice none 0 0, .slice none 0 0] 26 (0, 0)) := set_at h0_ 1 (.string t.pkg)
  have h2_ : (((w2.setCell ⟨w.heap.size + 1, 0, none⟩ (.int .i64 t.kind)).setCell ⟨w.heap.size + 1, 1, none⟩ (.string t.pkg)).setCell ⟨w.heap.size + 1, 2, none⟩ (.string t.name)).heap[w.heap.size + 1]? = some (.cells #[.int .i64 t.kind, .string t.pkg, .string t.name, .slice none 0 0, .slice none 0 0] 26 (0, 0)) := set_at h1_ 2 (.string t.name)
  have h3_ : ((((w2.setCell ⟨w.heap.size + 1, 0, none⟩ (.int .i64 t.kind)).setCell ⟨w.heap.size + 1, 1, none⟩ (.string t.pkg)).setCell ⟨w.heap.size + 1, 2, none⟩ (.string t.name)).setCell ⟨w.heap.size + 1, 3, none⟩ (.slice B3 t.args.length d3)).heap[w.heap.size + 1]? = some (.cells #[.int .i64 t.kind, .string t.pkg, .string t.name, .slice B3 t.args.length d3, .slice none 0 0] 26 (0, 0)) := set_at h2_ 3 (.slice B3 t.args.length d3)
  have h4_ : (((((w2.setCell ⟨w.heap.size + 1, 0, none⟩ (.int .i64 t.kind)).setCell ⟨w.heap.size + 1, 1, none⟩ (.string t.pkg)).setCell ⟨w.heap.size + 1, 2, none⟩ (.string t.name)).setCell ⟨w.heap.size + 1, 3, none⟩ (.slice B3 t.args.length d3)).setCell ⟨w.heap.size + 1, 4, none⟩ (.slice B4 t.res.length d4)).heap[w.heap.size + 1]? = some (.cells #[.int .i64 t.kind, .string t.pkg, .string t.name, .slice B3 t.args.length d3, .slice B4 t.res.length d4] 26 (0, 0)) := set_at h3_ 4 (.slice B4 t.res.length d4)
  have hset : Chg (fun k => k = w.heap.size + 1) w2 (((((w2.setCell ⟨w.heap.size + 1, 0, none⟩ (.int .i64 t.kind)).setCell ⟨w.heap.size + 1, 1, none⟩ (.string t.pkg)).setCell ⟨w.heap.size + 1, 2, none⟩ (.string t.name)).setCell ⟨w.heap.size + 1, 3, none⟩ (.slice B3 t.args.length d3)).setCell ⟨w.heap.size + 1, 4, none⟩ (.slice B4 t.res.length d4)) := ((((((Chg.refl (fun k => k = w.heap.size + 1) w2).setCell (p := ⟨w.heap.size + 1, 0, none⟩) (fun _ => rfl) (.int .i64 t.kind)).setCell (p := ⟨w.heap.size + 1, 1, none⟩) (fun _ => rfl) (.string t.pkg)).setCell (p := ⟨w.heap.size + 1, 2, none⟩) (fun _ => rfl) (.string t.name)).setCell (p := ⟨w.heap.size + 1, 3, none⟩) (fun _ => rfl) (.slice B3 t.args.length d3)).setCell (p := ⟨w.heap.size + 1, 4, none⟩) (fun _ => rfl) (.slice B4 t.res.length d4))
  have hd : ∀ (i : Nat) (v : Value), ([.int .i64 t.kind, .string t.pkg, .string t.name, .slice B3 t.args.length d3, .slice B4 t.res.length d4] : List Value)[i]? = some v → (((((w2.setCell ⟨w.heap.size + 1, 0, none⟩ (.int .i64 t.kind)).setCell ⟨w.heap.size + 1, 1, none⟩ (.string t.pkg)).setCell ⟨w.heap.size + 1, 2, none⟩ (.string t.name)).setCell ⟨w.heap.size + 1, 3, none⟩ (.slice B3 t.args.length d3)).setCell ⟨w.heap.size + 1, 4, none⟩ (.slice B4 t.res.length d4)).cell? ⟨w.heap.size + 1, i, none⟩ = some v := fun i v q => by rw [cell_at h4_]; simpa using q
  have HD := Lib.hid hd
  have HF := Lib.hid (Below.chg HB2.out hset HB2.out.size (fun i q => by omega))
  have HV3 := Lib.hid (HV2.out.sub (new_chg hset (n := ((w.alloc (.cells #[.int .i64 t.kind, .string t.pkg, .string t.name, .slice A3 t.args.length c3, .slice A4 t.res.length c4] 26)).alloc (.cells #[.int .i64 0, .string ⟨#[]⟩, .string ⟨#[]⟩, .slice none 0 0, .slice none 0 0] 26)).heap.size) (g := none) (g' := none) (fun k q _ => .inl (by simp; omega)) (fun k q => by cases q)))
  clear hd hset h0_ h1_ h2_ h3_ h4_
  go_wp2_with fail
  refine bodyPost_ret (v := .agg #[.int .i64 t.kind, .string t.pkg, .string t.name, .slice B3 t.args.length d3, .slice B4 t.res.length d4]) (by have d0 := HD.out 0 _ rfl; have d1 := HD.out 1 _ rfl; have d2 := HD.out 2 _ rfl; have d3_ := HD.out 3 _ rfl; have d4_ := HD.out 4 _ rfl; simp [results, Try.results25, go_sem, d0, d1, d2, d3_, d4_]) rfl ?_
  exact ⟨_, rfl, HV3.out.sub (new_mono (by simp; omega) _ _), HF.out⟩

theorem putTy_nil : ∀ (n : Nat) (t : Ty), SizeOf.sizeOf t < n → putTy [] [] t = t
  | 0, _, h => absurd h (Nat.not_lt_zero _)
  | n + 1, .mk k p s xs ys, h => by
    simp only [Ty.mk.sizeOf_spec] at h
    rw [putTy_eq, if_neg (by unfold putB; simp [placeN])]
    simp only [Ty.kind, Ty.pkg, Ty.name, Ty.args, Ty.res]
    rw [List.map_congr_left (g := id) (fun x hx => putTy_nil n x (by have := List.sizeOf_lt_of_mem hx; omega)), List.map_congr_left (g := id) (fun x hx => putTy_nil n x (by have := List.sizeOf_lt_of_mem hx; omega)), List.map_id, List.map_id]
theorem rput_size {names : List ByteArray} {ts : List Ty} (hs : ∀ x ∈ ts, RCopC x) : ∀ (n : Nat) (t : Ty), SizeOf.sizeOf t < n → t.sz ≤ 1000000 → RPutC names ts t
  | 0, _, h, _ => absurd h (Nat.not_lt_zero _)
  | n + 1, .mk k p s xs ys, h, hz => by
    simp only [Ty.mk.sizeOf_spec] at h
    have hz' := Ty.sz_eq (.mk k p s xs ys)
    simp only [Ty.args, Ty.res] at hz'
    cases hp : putB names ts (Ty.mk k p s xs ys).kind (Ty.mk k p s xs ys).name with
    | true => exact rput_hit _ hp hs
    | false =>
      exact rput_miss _ hp (by have := Ty.len_sz xs; simp only [Ty.args]; omega) (by have := Ty.len_sz ys; simp only [Ty.res]; omega)
        (fun x hx => rput_size hs n x (by have := List.sizeOf_lt_of_mem hx; simp only [Ty.args] at this; omega) (by have := Ty.mem_sz hx; simp only [Ty.args] at this; omega))
        (fun x hx => rput_size hs n x (by have := List.sizeOf_lt_of_mem hx; simp only [Ty.res] at this; omega) (by have := Ty.mem_sz hx; simp only [Ty.res] at this; omega))
theorem rcopC (t : Ty) (hz : t.sz ≤ 1000000) : RCopC t := rcopy_of (rput_size (names := []) (ts := []) (fun x hx => absurd hx (by simp)) _ t (Nat.lt_succ_self _) hz) (putTy_nil _ t (Nat.lt_succ_self _))
theorem rputC {names : List ByteArray} {ts : List Ty} (t : Ty) (hz : t.sz ≤ 1000000) (hs : ∀ x ∈ ts, x.sz ≤ 1000000) : RPutC names ts t := rput_size (fun x hx => rcopC x (hs x hx)) _ t (Nat.lt_succ_self _) hz
end Go.Proofs.Ytiecbgclkdlpkaa
