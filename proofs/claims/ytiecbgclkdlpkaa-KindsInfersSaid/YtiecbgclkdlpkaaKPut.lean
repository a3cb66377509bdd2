/-
  The walks of kinds.Put and of its closure: types in the place of variables. The conditions: what is handed in reads; it is not too great.
-/
import Derived.Test.YtiecbgclkdlpkaaKCopied
import Derived.Test.YtiecbgclkdlpkaaKIdx
import Derived.Deep.Cut
import Derived.Deep.CutRange
import Derived.Deep.DeepCutAuto
namespace Go.Proofs.Ytiecbgclkdlpkaa
open Go.RowKit
set_option linter.unusedVariables false
set_option linter.unusedSimpArgs false
attribute [local irreducible] wpStill wpOrd wpT

/-- Is a type a variable in whose place another one stands? -/
def putB (names : List ByteArray) (ts : List Ty) (k : Int) (n : ByteArray) : Bool := decide (k = 9) && (decide (placeN names n < names.length) && decide (placeN names n < ts.length))
mutual
def putTy (names : List ByteArray) (ts : List Ty) : Ty → Ty
  | .mk k p n xs ys => if putB names ts k n = true then ts.getD (placeN names n) (.mk k p n xs ys) else .mk k p n (putTyL names ts xs) (putTyL names ts ys)
def putTyL (names : List ByteArray) (ts : List Ty) : List Ty → List Ty
  | [] => []
  | t :: r => putTy names ts t :: putTyL names ts r
end
theorem putTyL_map (names : List ByteArray) (ts : List Ty) : ∀ l : List Ty, putTyL names ts l = l.map (putTy names ts)
  | [] => by simp [putTyL]
  | t :: r => by simp [putTyL, putTyL_map names ts r]
theorem putTy_eq (names : List ByteArray) (ts : List Ty) (t : Ty) : putTy names ts t = if putB names ts t.kind t.name = true then ts.getD (placeN names t.name) t else .mk t.kind t.pkg t.name (t.args.map (putTy names ts)) (t.res.map (putTy names ts)) := by
  cases t
  simp only [putTy, Ty.kind, Ty.name, Ty.pkg, Ty.args, Ty.res, putTyL_map]
  rfl

def PutC (names : List ByteArray) (ts : List Ty) (t : Ty) : Prop := ∀ (w : World) (vs : List Value) (A : Option Addr) (c : Nat) (A' : Option Addr) (c' : Nat), Vals w t.d vs → SL w 1 (strs names) names.length A c → SL w 5 (Ty.ds ts) ts.length A' c' →
  Calls Try.prog 26 #[.agg vs.toArray, .slice A names.length c, .slice A' ts.length c'] w (NewV w Ty.d (putTy names ts t))
theorem enters_put1 : Enters 52 := fun args w => by simp [go_sem]

set_option maxRecDepth 100000 in
set_option maxHeartbeats 1600000 in
theorem put1_any (w0 : World) (b4 b5 : Nat) {names : List ByteArray} {ts : List Ty} {A A' : Option Addr} {c c' : Nat} (hb4 : b4 < w0.heap.size) (hb5 : b5 < w0.heap.size) (h4 : w0.cell? ⟨b4, 0, none⟩ = some (.slice A names.length c)) (h5 : w0.cell? ⟨b5, 0, none⟩ = some (.slice A' ts.length c'))
    (hn : SL w0 1 (strs names) names.length A c) (ht : SL w0 5 (Ty.ds ts) ts.length A' c') (x : Ty) (hx : PutC names ts x) : OneTy w0 52 #[.pointer (some ⟨b4, 0, none⟩), .pointer (some ⟨b5, 0, none⟩)] (putTy names ts) x := by
  intro w vs hb hv
  obtain ⟨A3, c3, A4, c4, rfl, q0, q1, q2, q3, q4⟩ := Ty.opn hv
  have hA : Below w.heap.size w ((w.alloc (.cells #[.int .i64 x.kind, .string x.pkg, .string x.name, .slice A3 x.args.length c3, .slice A4 x.res.length c4] 26)).alloc (.cells #[.int .i64 0, .string ⟨#[]⟩, .string ⟨#[]⟩, .slice none 0 0, .slice none 0 0] 26)) := ((Below.refl w.heap.size w).alloc (Nat.le_refl _) _).alloc (by simp) _
  have hsub := Below.sub (hb.trans (hA.mono hb.size))
  have k4 := hsub _ _ h4
  have k5 := hsub _ _ h5
  have HX := Lib.hid (hx ((w.alloc (.cells #[.int .i64 x.kind, .string x.pkg, .string x.name, .slice A3 x.args.length c3, .slice A4 x.res.length c4] 26)).alloc (.cells #[.int .i64 0, .string ⟨#[]⟩, .string ⟨#[]⟩, .slice none 0 0, .slice none 0 0] 26)) _ A c A' c' (hv.sub (Below.sub hA)) (hn.sub hsub) (ht.sub hsub))
  have hbr := alloc_at (w.alloc (.cells #[.int .i64 x.kind, .string x.pkg, .string x.name, .slice A3 x.args.length c3, .slice A4 x.res.length c4] 26)) (.cells #[.int .i64 0, .string ⟨#[]⟩, .string ⟨#[]⟩, .slice none 0 0, .slice none 0 0] 26)
  rw [World.size_alloc] at hbr
  have HBR := Lib.hid hbr
  have HA := Lib.hid hA
  have HSZ := Lib.hid (show ((w.alloc (.cells #[.int .i64 x.kind, .string x.pkg, .string x.name, .slice A3 x.args.length c3, .slice A4 x.res.length c4] 26)).alloc (.cells #[.int .i64 0, .string ⟨#[]⟩, .string ⟨#[]⟩, .slice none 0 0, .slice none 0 0] 26)).heap.size = w.heap.size + 2 by simp)
  clear hb hv hsub hn ht hx q0 q1 q2 q3 q4 hbr hA h4 h5
  go_enter Try.func52, Try.ntmps52
  go_wp2_with fail
  refine HX.out.mono ?_
  rintro e w2 ⟨vs2, rfl, hv2, hb2⟩
  obtain ⟨y, hy⟩ : ∃ y, y = putTy names ts x := ⟨_, rfl⟩
  rw [← hy] at hv2
  have HY := Lib.hid hy
  clear hy
  have HV2 := Lib.hid hv2
  obtain ⟨B3, d3, B4, d4, rfl, y0, y1, y2, y3, y4⟩ := Ty.opn hv2
  have HBR2 := Lib.hid ((hb2.block _ (lt_of_block HBR.out)).trans HBR.out)
  have HB2 := Lib.hid (HA.out.trans (hb2.mono HA.out.size))
  clear hv2 hb2 y0 y1 y2 y3 y4 k4 k5
  have r0_ : w2.cell? ⟨w.heap.size + 1, 0, none⟩ = some (.int .i64 0) := (cell_at HBR2.out 0).trans rfl
  have s0_ : w2.frozen? ⟨w.heap.size + 1, 0, none⟩ = false := free_at HBR2.out 0
  have r1_ : w2.cell? ⟨w.heap.size + 1, 1, none⟩ = some (.string ⟨#[]⟩) := (cell_at HBR2.out 1).trans rfl
  have s1_ : w2.frozen? ⟨w.heap.size + 1, 1, none⟩ = false := free_at HBR2.out 1
  have r2_ : w2.cell? ⟨w.heap.size + 1, 2, none⟩ = some (.string ⟨#[]⟩) := (cell_at HBR2.out 2).trans rfl
  have s2_ : w2.frozen? ⟨w.heap.size + 1, 2, none⟩ = false := free_at HBR2.out 2
  have r3_ : w2.cell? ⟨w.heap.size + 1, 3, none⟩ = some (.slice none 0 0) := (cell_at HBR2.out 3).trans rfl
  have s3_ : w2.frozen? ⟨w.heap.size + 1, 3, none⟩ = false := free_at HBR2.out 3
  have r4_ : w2.cell? ⟨w.heap.size + 1, 4, none⟩ = some (.slice none 0 0) := (cell_at HBR2.out 4).trans rfl
  have s4_ : w2.frozen? ⟨w.heap.size + 1, 4, none⟩ = false := free_at HBR2.out 4
  have h0_ : (w2.setCell ⟨w.heap.size + 1, 0, none⟩ (.int .i64 y.kind)).heap[w.heap.size + 1]? = some (.cells #[.int .i64 y.kind, .string ⟨#[]⟩, .string ⟨#[]⟩, .slice none 0 0, .slice none 0 0] 26 (0, 0)) := set_at HBR2.out 0 (.int .i64 y.kind)
  have h1_ : ((w2.setCell ⟨w.heap.size + 1, 0, none⟩ (.int .i64 y.kind)).setCell ⟨w.heap.size + 1, 1, none⟩ (.string y.pkg)).heap[w.heap.size + 1]? = some (.cells #[.int .i64 y.kind, .string y.pkg, .string ⟨#[]⟩, .slice none 0 0, .slice none 0 0] 26 (0, 0)) := set_at h0_ 1 (.string y.pkg)
  have h2_ : (((w2.setCell ⟨w.heap.size + 1, 0, none⟩ (.int .i64 y.kind)).setCell ⟨w.heap.size + 1, 1, none⟩ (.string y.pkg)).setCell ⟨w.heap.size + 1, 2, none⟩ (.string y.name)).heap[w.heap.size + 1]? = some (.cells #[.int .i64 y.kind, .string y.pkg, .string y.name, .slice none 0 0, .slice none 0 0] 26 (0, 0)) := set_at h1_ 2 (.string y.name)
  have h3_ : ((((w2.setCell ⟨w.heap.size + 1, 0, none⟩ (.int .i64 y.kind)).setCell ⟨w.heap.size + 1, 1, none⟩ (.string y.pkg)).setCell ⟨w.heap.size + 1, 2, none⟩ (.string y.name)).setCell ⟨w.heap.size + 1, 3, none⟩ (.slice B3 y.args.length d3)).heap[w.heap.size + 1]? = some (.cells #[.int .i64 y.kind, .string y.pkg, .string y.name, .slice B3 y.args.length d3, .slice none 0 0] 26 (0, 0)) := set_at h2_ 3 (.slice B3 y.args.length d3)
  have h4_ : (((((w2.setCell ⟨w.heap.size + 1, 0, none⟩ (.int .i64 y.kind)).setCell ⟨w.heap.size + 1, 1, none⟩ (.string y.pkg)).setCell ⟨w.heap.size + 1, 2, none⟩ (.string y.name)).setCell ⟨w.heap.size + 1, 3, none⟩ (.slice B3 y.args.length d3)).setCell ⟨w.heap.size + 1, 4, none⟩ (.slice B4 y.res.length d4)).heap[w.heap.size + 1]? = some (.cells #[.int .i64 y.kind, .string y.pkg, .string y.name, .slice B3 y.args.length d3, .slice B4 y.res.length d4] 26 (0, 0)) := set_at h3_ 4 (.slice B4 y.res.length d4)
  have hset : Chg (fun k => k = w.heap.size + 1) w2 (((((w2.setCell ⟨w.heap.size + 1, 0, none⟩ (.int .i64 y.kind)).setCell ⟨w.heap.size + 1, 1, none⟩ (.string y.pkg)).setCell ⟨w.heap.size + 1, 2, none⟩ (.string y.name)).setCell ⟨w.heap.size + 1, 3, none⟩ (.slice B3 y.args.length d3)).setCell ⟨w.heap.size + 1, 4, none⟩ (.slice B4 y.res.length d4)) := ((((((Chg.refl (fun k => k = w.heap.size + 1) w2).setCell (p := ⟨w.heap.size + 1, 0, none⟩) (fun _ => rfl) (.int .i64 y.kind)).setCell (p := ⟨w.heap.size + 1, 1, none⟩) (fun _ => rfl) (.string y.pkg)).setCell (p := ⟨w.heap.size + 1, 2, none⟩) (fun _ => rfl) (.string y.name)).setCell (p := ⟨w.heap.size + 1, 3, none⟩) (fun _ => rfl) (.slice B3 y.args.length d3)).setCell (p := ⟨w.heap.size + 1, 4, none⟩) (fun _ => rfl) (.slice B4 y.res.length d4))
  have hd : ∀ (i : Nat) (v : Value), ([.int .i64 y.kind, .string y.pkg, .string y.name, .slice B3 y.args.length d3, .slice B4 y.res.length d4] : List Value)[i]? = some v → (((((w2.setCell ⟨w.heap.size + 1, 0, none⟩ (.int .i64 y.kind)).setCell ⟨w.heap.size + 1, 1, none⟩ (.string y.pkg)).setCell ⟨w.heap.size + 1, 2, none⟩ (.string y.name)).setCell ⟨w.heap.size + 1, 3, none⟩ (.slice B3 y.args.length d3)).setCell ⟨w.heap.size + 1, 4, none⟩ (.slice B4 y.res.length d4)).cell? ⟨w.heap.size + 1, i, none⟩ = some v := fun i v q => by rw [cell_at h4_]; simpa using q
  have HD := Lib.hid hd
  have HF := Lib.hid (Below.chg HB2.out hset HB2.out.size (fun i q => by omega))
  have HV3 := Lib.hid (HV2.out.sub (new_chg hset (n := ((w.alloc (.cells #[.int .i64 x.kind, .string x.pkg, .string x.name, .slice A3 x.args.length c3, .slice A4 x.res.length c4] 26)).alloc (.cells #[.int .i64 0, .string ⟨#[]⟩, .string ⟨#[]⟩, .slice none 0 0, .slice none 0 0] 26)).heap.size) (g := none) (g' := none) (fun k q _ => .inl (by have := HSZ.out; omega)) (fun k q => by cases q)))
  clear hd hset h0_ h1_ h2_ h3_ h4_
  go_wp2_with fail
  refine bodyPost_ret (v := .agg #[.int .i64 y.kind, .string y.pkg, .string y.name, .slice B3 y.args.length d3, .slice B4 y.res.length d4]) (by have d0 := HD.out 0 _ rfl; have d1 := HD.out 1 _ rfl; have d2 := HD.out 2 _ rfl; have d3_ := HD.out 3 _ rfl; have d4_ := HD.out 4 _ rfl; simp [results, Try.results52, go_sem, d0, d1, d2, d3_, d4_]) rfl ?_
  rw [← HY.out]
  exact ⟨_, rfl, HV3.out.sub (new_mono (by have := HSZ.out; omega) _ _), HF.out⟩

set_option maxRecDepth 100000 in
set_option maxHeartbeats 6400000 in
theorem put_hit {names : List ByteArray} {ts : List Ty} (t : Ty) (hp : putB names ts t.kind t.name = true) (hs : ∀ x ∈ ts, x.sz ≤ 1000000) : PutC names ts t := by
  intro w vs A c A' c' hv hn ht
  obtain ⟨A3, c3, A4, c4, rfl, q0, q1, q2, q3, q4⟩ := Ty.opn hv
  unfold putB at hp
  simp only [Bool.and_eq_true, decide_eq_true_eq] at hp
  obtain ⟨p1, p2, p3⟩ := hp
  obtain ⟨m, p3, hq1, hq2⟩ : ∃ (m : Nat) (h : m < ts.length), putTy names ts t = ts[m] ∧ placeI names t.name = (m : Int) := by
    refine ⟨placeN names t.name, p3, ?_, ?_⟩
    · rw [putTy_eq, if_pos (by unfold putB; simp only [Bool.and_eq_true, decide_eq_true_eq]; exact ⟨p1, p2, p3⟩), List.getD_eq_getElem?_getD, List.getElem?_eq_getElem p3]; rfl
    · unfold placeI; rw [if_pos p2]
  have HEQ := Lib.hid hq1; have HPI := Lib.hid hq2
  have hkb : (t.kind == 9) = true := by simp [p1]
  have HZ := Lib.hid (hs _ (List.getElem_mem p3))
  clear hs hq1 hq2 p1 p2
  obtain ⟨bb, oo, hAq, E3, g3, E4, g4, e0, e1, e2, e3, e4, z0, z1, z2, z3, z4⟩ := Ty.at ht.2.2.2 m p3
  subst hAq
  have hnr := hn.2.2.1
  have htr := ht.2.2.1
  unfold Reach at hnr htr
  have HBT0 := Lib.hid (show ((((w.alloc (.cells #[.int .i64 t.kind, .string t.pkg, .string t.name, .slice A3 t.args.length c3, .slice A4 t.res.length c4] 26)).alloc (.cells #[.slice A names.length c] 36)).alloc (.cells #[.slice (some ⟨bb, oo, none⟩) ts.length c'] 24)).alloc (.cells #[.int .i64 0, .string ⟨#[]⟩, .string ⟨#[]⟩, .slice none 0 0, .slice none 0 0] 26)).heap[w.heap.size]? = some (.cells #[.int .i64 t.kind, .string t.pkg, .string t.name, .slice A3 t.args.length c3, .slice A4 t.res.length c4] 26 (0, 0)) from alloc_old (alloc_old (alloc_old (alloc_at w _) _) _) _)
  have HBN0 := Lib.hid (show ((((w.alloc (.cells #[.int .i64 t.kind, .string t.pkg, .string t.name, .slice A3 t.args.length c3, .slice A4 t.res.length c4] 26)).alloc (.cells #[.slice A names.length c] 36)).alloc (.cells #[.slice (some ⟨bb, oo, none⟩) ts.length c'] 24)).alloc (.cells #[.int .i64 0, .string ⟨#[]⟩, .string ⟨#[]⟩, .slice none 0 0, .slice none 0 0] 26)).heap[w.heap.size + 1]? = some (.cells #[.slice A names.length c] 36 (0, 0)) from alloc_old (alloc_old (by have := alloc_at (w.alloc (.cells #[.int .i64 t.kind, .string t.pkg, .string t.name, .slice A3 t.args.length c3, .slice A4 t.res.length c4] 26)) (.cells #[.slice A names.length c] 36); rwa [World.size_alloc] at this) _) _)
  have HBS0 := Lib.hid (show ((((w.alloc (.cells #[.int .i64 t.kind, .string t.pkg, .string t.name, .slice A3 t.args.length c3, .slice A4 t.res.length c4] 26)).alloc (.cells #[.slice A names.length c] 36)).alloc (.cells #[.slice (some ⟨bb, oo, none⟩) ts.length c'] 24)).alloc (.cells #[.int .i64 0, .string ⟨#[]⟩, .string ⟨#[]⟩, .slice none 0 0, .slice none 0 0] 26)).heap[w.heap.size + 1 + 1]? = some (.cells #[.slice (some ⟨bb, oo, none⟩) ts.length c'] 24 (0, 0)) from alloc_old (by have := alloc_at ((w.alloc (.cells #[.int .i64 t.kind, .string t.pkg, .string t.name, .slice A3 t.args.length c3, .slice A4 t.res.length c4] 26)).alloc (.cells #[.slice A names.length c] 36)) (.cells #[.slice (some ⟨bb, oo, none⟩) ts.length c'] 24); rwa [World.size_alloc, World.size_alloc] at this) _)
  have HBR0 := Lib.hid (show ((((w.alloc (.cells #[.int .i64 t.kind, .string t.pkg, .string t.name, .slice A3 t.args.length c3, .slice A4 t.res.length c4] 26)).alloc (.cells #[.slice A names.length c] 36)).alloc (.cells #[.slice (some ⟨bb, oo, none⟩) ts.length c'] 24)).alloc (.cells #[.int .i64 0, .string ⟨#[]⟩, .string ⟨#[]⟩, .slice none 0 0, .slice none 0 0] 26)).heap[w.heap.size + 1 + 1 + 1]? = some (.cells #[.int .i64 0, .string ⟨#[]⟩, .string ⟨#[]⟩, .slice none 0 0, .slice none 0 0] 26 (0, 0)) from by have := alloc_at (((w.alloc (.cells #[.int .i64 t.kind, .string t.pkg, .string t.name, .slice A3 t.args.length c3, .slice A4 t.res.length c4] 26)).alloc (.cells #[.slice A names.length c] 36)).alloc (.cells #[.slice (some ⟨bb, oo, none⟩) ts.length c'] 24)) (.cells #[.int .i64 0, .string ⟨#[]⟩, .string ⟨#[]⟩, .slice none 0 0, .slice none 0 0] 26); rwa [World.size_alloc, World.size_alloc, World.size_alloc] at this)
  have HSZ := Lib.hid (show ((((w.alloc (.cells #[.int .i64 t.kind, .string t.pkg, .string t.name, .slice A3 t.args.length c3, .slice A4 t.res.length c4] 26)).alloc (.cells #[.slice A names.length c] 36)).alloc (.cells #[.slice (some ⟨bb, oo, none⟩) ts.length c'] 24)).alloc (.cells #[.int .i64 0, .string ⟨#[]⟩, .string ⟨#[]⟩, .slice none 0 0, .slice none 0 0] 26)).heap.size = w.heap.size + 4 by simp)
  have HB0 := Lib.hid (show Below w.heap.size w ((((w.alloc (.cells #[.int .i64 t.kind, .string t.pkg, .string t.name, .slice A3 t.args.length c3, .slice A4 t.res.length c4] 26)).alloc (.cells #[.slice A names.length c] 36)).alloc (.cells #[.slice (some ⟨bb, oo, none⟩) ts.length c'] 24)).alloc (.cells #[.int .i64 0, .string ⟨#[]⟩, .string ⟨#[]⟩, .slice none 0 0, .slice none 0 0] 26)) from (((((Below.refl w.heap.size w).alloc (Nat.le_refl _) _).alloc (by simp) _).alloc (by simp; omega) _).alloc (by simp; omega) _))
  have HNM := Lib.hid hn; have HTS := Lib.hid ht
  have Q0 := Lib.hid q0; have Q1 := Lib.hid q1; have Q2 := Lib.hid q2; have Q3 := Lib.hid q3; have Q4 := Lib.hid q4
  have HIX := Lib.hid (index_any ((((w.alloc (.cells #[.int .i64 t.kind, .string t.pkg, .string t.name, .slice A3 t.args.length c3, .slice A4 t.res.length c4] 26)).alloc (.cells #[.slice A names.length c] 36)).alloc (.cells #[.slice (some ⟨bb, oo, none⟩) ts.length c'] 24)).alloc (.cells #[.int .i64 0, .string ⟨#[]⟩, .string ⟨#[]⟩, .slice none 0 0, .slice none 0 0] 26)) names A c (hn.sub (Below.sub HB0.out)) t.name)
  have p3' : (m : Int) < ts.length := by omega
  rw [HPI.out] at HIX
  have hsub := Below.sub HB0.out
  have f0 := hsub _ _ e0; have f1 := hsub _ _ e1; have f2 := hsub _ _ e2; have f3 := hsub _ _ e3; have f4 := hsub _ _ e4
  have HCP := Lib.hid (copTy ts[m] HZ.out ((((w.alloc (.cells #[.int .i64 t.kind, .string t.pkg, .string t.name, .slice A3 t.args.length c3, .slice A4 t.res.length c4] 26)).alloc (.cells #[.slice A names.length c] 36)).alloc (.cells #[.slice (some ⟨bb, oo, none⟩) ts.length c'] 24)).alloc (.cells #[.int .i64 0, .string ⟨#[]⟩, .string ⟨#[]⟩, .slice none 0 0, .slice none 0 0] 26)) _ ((Ty.shut (w := w) (t := ts[m]) z0 z1 z2 z3 z4).sub hsub))
  clear hsub e0 e1 e2 e3 e4 z0 z1 z2 z3 z4
  clear hv hn ht q0 q1 q2 q3 q4
  have hmf : ∀ (fn : Go.Fn) (first cap : Array Value) (w : World), (Instr.makeFunc fn first cap).run Try.prog w = .ok (.func fn first cap) w := fun _ _ _ _ => rfl
  go_enter Try.func26, Try.ntmps26
  go_wp2_with fail
  refine HIX.out.mono ?_
  rintro e w' ⟨rfl, rfl⟩
  go_wp2_with fail
  refine HCP.out.mono ?_
  rintro e w2 ⟨vs2, rfl, hv2, hb2⟩
  rw [← HEQ.out] at hv2
  obtain ⟨y, hy⟩ : ∃ y, y = putTy names ts t := ⟨_, rfl⟩
  rw [← hy] at hv2
  have HY := Lib.hid hy
  clear hy
  have HV2 := Lib.hid hv2
  obtain ⟨B3, d3, B4, d4, rfl, y0, y1, y2, y3, y4⟩ := Ty.opn hv2
  have HBR2 := Lib.hid ((hb2.block _ (lt_of_block HBR0.out)).trans HBR0.out)
  have HB2 := Lib.hid (HB0.out.trans (hb2.mono HB0.out.size))
  clear hv2 hb2 y0 y1 y2 y3 y4
  have r0_ : w2.cell? ⟨w.heap.size + 1 + 1 + 1, 0, none⟩ = some (.int .i64 0) := (cell_at HBR2.out 0).trans rfl
  have s0_ : w2.frozen? ⟨w.heap.size + 1 + 1 + 1, 0, none⟩ = false := free_at HBR2.out 0
  have r1_ : w2.cell? ⟨w.heap.size + 1 + 1 + 1, 1, none⟩ = some (.string ⟨#[]⟩) := (cell_at HBR2.out 1).trans rfl
  have s1_ : w2.frozen? ⟨w.heap.size + 1 + 1 + 1, 1, none⟩ = false := free_at HBR2.out 1
  have r2_ : w2.cell? ⟨w.heap.size + 1 + 1 + 1, 2, none⟩ = some (.string ⟨#[]⟩) := (cell_at HBR2.out 2).trans rfl
  have s2_ : w2.frozen? ⟨w.heap.size + 1 + 1 + 1, 2, none⟩ = false := free_at HBR2.out 2
  have r3_ : w2.cell? ⟨w.heap.size + 1 + 1 + 1, 3, none⟩ = some (.slice none 0 0) := (cell_at HBR2.out 3).trans rfl
  have s3_ : w2.frozen? ⟨w.heap.size + 1 + 1 + 1, 3, none⟩ = false := free_at HBR2.out 3
  have r4_ : w2.cell? ⟨w.heap.size + 1 + 1 + 1, 4, none⟩ = some (.slice none 0 0) := (cell_at HBR2.out 4).trans rfl
  have s4_ : w2.frozen? ⟨w.heap.size + 1 + 1 + 1, 4, none⟩ = false := free_at HBR2.out 4
  have h0_ : (w2.setCell ⟨w.heap.size + 1 + 1 + 1, 0, none⟩ (.int .i64 y.kind)).heap[w.heap.size + 1 + 1 + 1]? = some (.cells #[.int .i64 y.kind, .string ⟨#[]⟩, .string ⟨#[]⟩, .slice none 0 0, .slice none 0 0] 26 (0, 0)) := set_at HBR2.out 0 (.int .i64 y.kind)
  have h1_ : ((w2.setCell ⟨w.heap.size + 1 + 1 + 1, 0, none⟩ (.int .i64 y.kind)).setCell ⟨w.heap.size + 1 + 1 + 1, 1, none⟩ (.string y.pkg)).heap[w.heap.size + 1 + 1 + 1]? = some (.cells #[.int .i64 y.kind, .string y.pkg, .string ⟨#[]⟩, .slice none 0 0, .slice none 0 0] 26 (0, 0)) := set_at h0_ 1 (.string y.pkg)
  have h2_ : (((w2.setCell ⟨w.heap.size + 1 + 1 + 1, 0, none⟩ (.int .i64 y.kind)).setCell ⟨w.heap.size + 1 + 1 + 1, 1, none⟩ (.string y.pkg)).setCell ⟨w.heap.size + 1 + 1 + 1, 2, none⟩ (.string y.name)).heap[w.heap.size + 1 + 1 + 1]? = some (.cells #[.int .i64 y.kind, .string y.pkg, .string y.name, .slice none 0 0, .slice none 0 0] 26 (0, 0)) := set_at h1_ 2 (.string y.name)
  have h3_ : ((((w2.setCell ⟨w.heap.size + 1 + 1 + 1, 0, none⟩ (.int .i64 y.kind)).setCell ⟨w.heap.size + 1 + 1 + 1, 1, none⟩ (.string y.pkg)).setCell ⟨w.heap.size + 1 + 1 + 1, 2, none⟩ (.string y.name)).setCell ⟨w.heap.size + 1 + 1 + 1, 3, none⟩ (.slice B3 y.args.length d3)).heap[w.heap.size + 1 + 1 + 1]? = some (.cells #[.int .i64 y.kind, .string y.pkg, .string y.name, .slice B3 y.args.length d3, .slice none 0 0] 26 (0, 0)) := set_at h2_ 3 (.slice B3 y.args.length d3)
  have h4_ : (((((w2.setCell ⟨w.heap.size + 1 + 1 + 1, 0, none⟩ (.int .i64 y.kind)).setCell ⟨w.heap.size + 1 + 1 + 1, 1, none⟩ (.string y.pkg)).setCell ⟨w.heap.size + 1 + 1 + 1, 2, none⟩ (.string y.name)).setCell ⟨w.heap.size + 1 + 1 + 1, 3, none⟩ (.slice B3 y.args.length d3)).setCell ⟨w.heap.size + 1 + 1 + 1, 4, none⟩ (.slice B4 y.res.length d4)).heap[w.heap.size + 1 + 1 + 1]? = some (.cells #[.int .i64 y.kind, .string y.pkg, .string y.name, .slice B3 y.args.length d3, .slice B4 y.res.length d4] 26 (0, 0)) := set_at h3_ 4 (.slice B4 y.res.length d4)
  have hset : Chg (fun k => k = w.heap.size + 1 + 1 + 1) w2 (((((w2.setCell ⟨w.heap.size + 1 + 1 + 1, 0, none⟩ (.int .i64 y.kind)).setCell ⟨w.heap.size + 1 + 1 + 1, 1, none⟩ (.string y.pkg)).setCell ⟨w.heap.size + 1 + 1 + 1, 2, none⟩ (.string y.name)).setCell ⟨w.heap.size + 1 + 1 + 1, 3, none⟩ (.slice B3 y.args.length d3)).setCell ⟨w.heap.size + 1 + 1 + 1, 4, none⟩ (.slice B4 y.res.length d4)) := ((((((Chg.refl (fun k => k = w.heap.size + 1 + 1 + 1) w2).setCell (p := ⟨w.heap.size + 1 + 1 + 1, 0, none⟩) (fun _ => rfl) (.int .i64 y.kind)).setCell (p := ⟨w.heap.size + 1 + 1 + 1, 1, none⟩) (fun _ => rfl) (.string y.pkg)).setCell (p := ⟨w.heap.size + 1 + 1 + 1, 2, none⟩) (fun _ => rfl) (.string y.name)).setCell (p := ⟨w.heap.size + 1 + 1 + 1, 3, none⟩) (fun _ => rfl) (.slice B3 y.args.length d3)).setCell (p := ⟨w.heap.size + 1 + 1 + 1, 4, none⟩) (fun _ => rfl) (.slice B4 y.res.length d4))
  have hd : ∀ (i : Nat) (v : Value), ([.int .i64 y.kind, .string y.pkg, .string y.name, .slice B3 y.args.length d3, .slice B4 y.res.length d4] : List Value)[i]? = some v → (((((w2.setCell ⟨w.heap.size + 1 + 1 + 1, 0, none⟩ (.int .i64 y.kind)).setCell ⟨w.heap.size + 1 + 1 + 1, 1, none⟩ (.string y.pkg)).setCell ⟨w.heap.size + 1 + 1 + 1, 2, none⟩ (.string y.name)).setCell ⟨w.heap.size + 1 + 1 + 1, 3, none⟩ (.slice B3 y.args.length d3)).setCell ⟨w.heap.size + 1 + 1 + 1, 4, none⟩ (.slice B4 y.res.length d4)).cell? ⟨w.heap.size + 1 + 1 + 1, i, none⟩ = some v := fun i v q => by rw [cell_at h4_]; simpa using q
  have HD := Lib.hid hd
  have HF := Lib.hid (Below.chg HB2.out hset HB2.out.size (fun i q => by omega))
  have HV3 := Lib.hid (HV2.out.sub (new_chg hset (n := ((((w.alloc (.cells #[.int .i64 t.kind, .string t.pkg, .string t.name, .slice A3 t.args.length c3, .slice A4 t.res.length c4] 26)).alloc (.cells #[.slice A names.length c] 36)).alloc (.cells #[.slice (some ⟨bb, oo, none⟩) ts.length c'] 24)).alloc (.cells #[.int .i64 0, .string ⟨#[]⟩, .string ⟨#[]⟩, .slice none 0 0, .slice none 0 0] 26)).heap.size) (g := none) (g' := none) (fun k q _ => .inl (by have := HSZ.out; omega)) (fun k q => by cases q)))
  clear hd hset h0_ h1_ h2_ h3_ h4_
  go_wp2_with fail
  refine bodyPost_ret (v := .agg #[.int .i64 y.kind, .string y.pkg, .string y.name, .slice B3 y.args.length d3, .slice B4 y.res.length d4]) (by have d0 := HD.out 0 _ rfl; have d1 := HD.out 1 _ rfl; have d2 := HD.out 2 _ rfl; have d3_ := HD.out 3 _ rfl; have d4_ := HD.out 4 _ rfl; simp [results, Try.results26, go_sem, d0, d1, d2, d3_, d4_]) rfl ?_
  rw [← HY.out]
  exact ⟨_, rfl, HV3.out.sub (new_mono (by have := HSZ.out; omega) _ _), HF.out⟩

set_option maxRecDepth 100000 in
set_option maxHeartbeats 6400000 in
theorem put_miss {names : List ByteArray} {ts : List Ty} (t : Ty) (hp : putB names ts t.kind t.name = false) (h1 : t.args.length ≤ 1000000) (h2 : t.res.length ≤ 1000000) (o_args : ∀ x ∈ t.args, PutC names ts x) (o_res : ∀ x ∈ t.res, PutC names ts x) : PutC names ts t := by
  intro w vs A c A' c' hv hn ht
  obtain ⟨A3, c3, A4, c4, rfl, q0, q1, q2, q3, q4⟩ := Ty.opn hv
  
  have hnr := hn.2.2.1
  have htr := ht.2.2.1
  unfold Reach at hnr htr
  have HBT0 := Lib.hid (show ((((w.alloc (.cells #[.int .i64 t.kind, .string t.pkg, .string t.name, .slice A3 t.args.length c3, .slice A4 t.res.length c4] 26)).alloc (.cells #[.slice A names.length c] 36)).alloc (.cells #[.slice A' ts.length c'] 24)).alloc (.cells #[.int .i64 0, .string ⟨#[]⟩, .string ⟨#[]⟩, .slice none 0 0, .slice none 0 0] 26)).heap[w.heap.size]? = some (.cells #[.int .i64 t.kind, .string t.pkg, .string t.name, .slice A3 t.args.length c3, .slice A4 t.res.length c4] 26 (0, 0)) from alloc_old (alloc_old (alloc_old (alloc_at w _) _) _) _)
  have HBN0 := Lib.hid (show ((((w.alloc (.cells #[.int .i64 t.kind, .string t.pkg, .string t.name, .slice A3 t.args.length c3, .slice A4 t.res.length c4] 26)).alloc (.cells #[.slice A names.length c] 36)).alloc (.cells #[.slice A' ts.length c'] 24)).alloc (.cells #[.int .i64 0, .string ⟨#[]⟩, .string ⟨#[]⟩, .slice none 0 0, .slice none 0 0] 26)).heap[w.heap.size + 1]? = some (.cells #[.slice A names.length c] 36 (0, 0)) from alloc_old (alloc_old (by have := alloc_at (w.alloc (.cells #[.int .i64 t.kind, .string t.pkg, .string t.name, .slice A3 t.args.length c3, .slice A4 t.res.length c4] 26)) (.cells #[.slice A names.length c] 36); rwa [World.size_alloc] at this) _) _)
  have HBS0 := Lib.hid (show ((((w.alloc (.cells #[.int .i64 t.kind, .string t.pkg, .string t.name, .slice A3 t.args.length c3, .slice A4 t.res.length c4] 26)).alloc (.cells #[.slice A names.length c] 36)).alloc (.cells #[.slice A' ts.length c'] 24)).alloc (.cells #[.int .i64 0, .string ⟨#[]⟩, .string ⟨#[]⟩, .slice none 0 0, .slice none 0 0] 26)).heap[w.heap.size + 1 + 1]? = some (.cells #[.slice A' ts.length c'] 24 (0, 0)) from alloc_old (by have := alloc_at ((w.alloc (.cells #[.int .i64 t.kind, .string t.pkg, .string t.name, .slice A3 t.args.length c3, .slice A4 t.res.length c4] 26)).alloc (.cells #[.slice A names.length c] 36)) (.cells #[.slice A' ts.length c'] 24); rwa [World.size_alloc, World.size_alloc] at this) _)
  have HBR0 := Lib.hid (show ((((w.alloc (.cells #[.int .i64 t.kind, .string t.pkg, .string t.name, .slice A3 t.args.length c3, .slice A4 t.res.length c4] 26)).alloc (.cells #[.slice A names.length c] 36)).alloc (.cells #[.slice A' ts.length c'] 24)).alloc (.cells #[.int .i64 0, .string ⟨#[]⟩, .string ⟨#[]⟩, .slice none 0 0, .slice none 0 0] 26)).heap[w.heap.size + 1 + 1 + 1]? = some (.cells #[.int .i64 0, .string ⟨#[]⟩, .string ⟨#[]⟩, .slice none 0 0, .slice none 0 0] 26 (0, 0)) from by have := alloc_at (((w.alloc (.cells #[.int .i64 t.kind, .string t.pkg, .string t.name, .slice A3 t.args.length c3, .slice A4 t.res.length c4] 26)).alloc (.cells #[.slice A names.length c] 36)).alloc (.cells #[.slice A' ts.length c'] 24)) (.cells #[.int .i64 0, .string ⟨#[]⟩, .string ⟨#[]⟩, .slice none 0 0, .slice none 0 0] 26); rwa [World.size_alloc, World.size_alloc, World.size_alloc] at this)
  have HSZ := Lib.hid (show ((((w.alloc (.cells #[.int .i64 t.kind, .string t.pkg, .string t.name, .slice A3 t.args.length c3, .slice A4 t.res.length c4] 26)).alloc (.cells #[.slice A names.length c] 36)).alloc (.cells #[.slice A' ts.length c'] 24)).alloc (.cells #[.int .i64 0, .string ⟨#[]⟩, .string ⟨#[]⟩, .slice none 0 0, .slice none 0 0] 26)).heap.size = w.heap.size + 4 by simp)
  have HB0 := Lib.hid (show Below w.heap.size w ((((w.alloc (.cells #[.int .i64 t.kind, .string t.pkg, .string t.name, .slice A3 t.args.length c3, .slice A4 t.res.length c4] 26)).alloc (.cells #[.slice A names.length c] 36)).alloc (.cells #[.slice A' ts.length c'] 24)).alloc (.cells #[.int .i64 0, .string ⟨#[]⟩, .string ⟨#[]⟩, .slice none 0 0, .slice none 0 0] 26)) from (((((Below.refl w.heap.size w).alloc (Nat.le_refl _) _).alloc (by simp) _).alloc (by simp; omega) _).alloc (by simp; omega) _))
  have HNM := Lib.hid hn; have HTS := Lib.hid ht
  have Q0 := Lib.hid q0; have Q1 := Lib.hid q1; have Q2 := Lib.hid q2; have Q3 := Lib.hid q3; have Q4 := Lib.hid q4
  have HIX := Lib.hid (index_any ((((w.alloc (.cells #[.int .i64 t.kind, .string t.pkg, .string t.name, .slice A3 t.args.length c3, .slice A4 t.res.length c4] 26)).alloc (.cells #[.slice A names.length c] 36)).alloc (.cells #[.slice A' ts.length c'] 24)).alloc (.cells #[.int .i64 0, .string ⟨#[]⟩, .string ⟨#[]⟩, .slice none 0 0, .slice none 0 0] 26)) names A c (hn.sub (Below.sub HB0.out)) t.name)
  have HEQ := Lib.hid (show putTy names ts t = .mk t.kind t.pkg t.name (t.args.map (putTy names ts)) (t.res.map (putTy names ts)) by rw [putTy_eq, if_neg (by rw [hp]; simp)])
  have NL3 := Lib.hid h1; have NL4 := Lib.hid h2; have OC3 := Lib.hid o_args; have OC4 := Lib.hid o_res
  have HW0 := Lib.hid (show ((((w.alloc (.cells #[.int .i64 t.kind, .string t.pkg, .string t.name, .slice A3 t.args.length c3, .slice A4 t.res.length c4] 26)).alloc (.cells #[.slice A names.length c] 36)).alloc (.cells #[.slice A' ts.length c'] 24)).alloc (.cells #[.int .i64 0, .string ⟨#[]⟩, .string ⟨#[]⟩, .slice none 0 0, .slice none 0 0] 26)).heap.size ≤ ((((w.alloc (.cells #[.int .i64 t.kind, .string t.pkg, .string t.name, .slice A3 t.args.length c3, .slice A4 t.res.length c4] 26)).alloc (.cells #[.slice A names.length c] 36)).alloc (.cells #[.slice A' ts.length c'] 24)).alloc (.cells #[.int .i64 0, .string ⟨#[]⟩, .string ⟨#[]⟩, .slice none 0 0, .slice none 0 0] 26)).drew.heap.size from Nat.le_refl _)
  have HP := Lib.hid hp
  clear hp h1 h2 o_args o_res
  clear hv hn ht q0 q1 q2 q3 q4
  have hmf : ∀ (fn : Go.Fn) (first cap : Array Value) (w : World), (Instr.makeFunc fn first cap).run Try.prog w = .ok (.func fn first cap) w := fun _ _ _ _ => rfl
  go_enter Try.func26, Try.ntmps26
  go_upto_if 11 with (fail)
  go_cut [] from 7 to 28 (fun wx => wx = ((((w.alloc (.cells #[.int .i64 t.kind, .string t.pkg, .string t.name, .slice A3 t.args.length c3, .slice A4 t.res.length c4] 26)).alloc (.cells #[.slice A names.length c] 36)).alloc (.cells #[.slice A' ts.length c'] 24)).alloc (.cells #[.int .i64 0, .string ⟨#[]⟩, .string ⟨#[]⟩, .slice none 0 0, .slice none 0 0] 26)))
  case first =>
    by_cases hk : t.kind = 9
    · have hkb : (t.kind == 9) = true := by simp [hk]
      by_cases hn : placeN names t.name < names.length
      · have HPI := Lib.hid (show placeI names t.name = (placeN names t.name : Int) by unfold placeI; rw [if_pos hn])
        rw [HPI.out] at HIX
        have hm : ¬ (placeN names t.name : Int) < ts.length := by
          intro h
          have hp := HP.out
          unfold putB at hp
          rw [decide_eq_true hk, decide_eq_true hn, decide_eq_true (by omega : placeN names t.name < ts.length)] at hp
          cases hp
        clear hk hn
        go_wp2_with fail
        refine HIX.out.mono ?_
        rintro e w' ⟨rfl, rfl⟩
        go_wp2_with fail
        go_meet
        case rel => rfl
      · have HPI := Lib.hid (show placeI names t.name = -1 by unfold placeI; rw [if_neg hn])
        rw [HPI.out] at HIX
        clear hk hn
        go_wp2_with fail
        refine HIX.out.mono ?_
        rintro e w' ⟨rfl, rfl⟩
        go_wp2_with fail
        go_meet
        case rel => rfl
    · have hkb : (t.kind == 9) = false := by simp [hk]
      clear hk
      go_wp2_with fail
      go_meet
      case rel => rfl
  case rest =>
    subst hcut
    have HB0 := Lib.hid HB0.out.drew
    have HBT0 := Lib.hid (show ((((w.alloc (.cells #[.int .i64 t.kind, .string t.pkg, .string t.name, .slice A3 t.args.length c3, .slice A4 t.res.length c4] 26)).alloc (.cells #[.slice A names.length c] 36)).alloc (.cells #[.slice A' ts.length c'] 24)).alloc (.cells #[.int .i64 0, .string ⟨#[]⟩, .string ⟨#[]⟩, .slice none 0 0, .slice none 0 0] 26)).drew.heap[w.heap.size]? = some (.cells #[.int .i64 t.kind, .string t.pkg, .string t.name, .slice A3 t.args.length c3, .slice A4 t.res.length c4] 26 (0, 0)) from HBT0.out)
    have HBN0 := Lib.hid (show ((((w.alloc (.cells #[.int .i64 t.kind, .string t.pkg, .string t.name, .slice A3 t.args.length c3, .slice A4 t.res.length c4] 26)).alloc (.cells #[.slice A names.length c] 36)).alloc (.cells #[.slice A' ts.length c'] 24)).alloc (.cells #[.int .i64 0, .string ⟨#[]⟩, .string ⟨#[]⟩, .slice none 0 0, .slice none 0 0] 26)).drew.heap[w.heap.size + 1]? = some (.cells #[.slice A names.length c] 36 (0, 0)) from HBN0.out)
    have HBS0 := Lib.hid (show ((((w.alloc (.cells #[.int .i64 t.kind, .string t.pkg, .string t.name, .slice A3 t.args.length c3, .slice A4 t.res.length c4] 26)).alloc (.cells #[.slice A names.length c] 36)).alloc (.cells #[.slice A' ts.length c'] 24)).alloc (.cells #[.int .i64 0, .string ⟨#[]⟩, .string ⟨#[]⟩, .slice none 0 0, .slice none 0 0] 26)).drew.heap[w.heap.size + 1 + 1]? = some (.cells #[.slice A' ts.length c'] 24 (0, 0)) from HBS0.out)
    have HBR0 := Lib.hid (show ((((w.alloc (.cells #[.int .i64 t.kind, .string t.pkg, .string t.name, .slice A3 t.args.length c3, .slice A4 t.res.length c4] 26)).alloc (.cells #[.slice A names.length c] 36)).alloc (.cells #[.slice A' ts.length c'] 24)).alloc (.cells #[.int .i64 0, .string ⟨#[]⟩, .string ⟨#[]⟩, .slice none 0 0, .slice none 0 0] 26)).drew.heap[w.heap.size + 1 + 1 + 1]? = some (.cells #[.int .i64 0, .string ⟨#[]⟩, .string ⟨#[]⟩, .slice none 0 0, .slice none 0 0] 26 (0, 0)) from HBR0.out)
    go_wp2_with fail
    refine wp_region_otN (fun _ => True) (.get 0 (.get 2 (.get 4 (.get 6 (.two 1 (.two 3 (.one 5 (.get 8 (.one 7 (.one 9 (.get 10 (.one 11 .done)))))) 5 (.one 3 (.get 8 (.one 7 (.one 9 (.get 10 (.one 11 .done))))))) 5 (.one 1 (.one 3 (.get 8 (.one 7 (.one 9 (.get 10 (.one 11 .done)))))))))))) (by kernel_rfl) (by kernel_rfl) trivial ?_
    apply wpT_get rfl
    · go_simp
    · intro wS hS
      go_simp
      try rfl
    intro K hK
    go_simp
    refine hK _ ?_
    clear hK K
    apply wpT_get rfl
    · go_simp
    · intro wS hS
      go_simp
      try rfl
    intro K hK
    go_simp
    refine hK _ ?_
    clear hK K
    apply wpT_get rfl
    · go_simp
    · intro wS hS
      go_simp
      try rfl
    intro K hK
    go_simp
    refine hK _ ?_
    clear hK K
    apply wpT_get rfl
    · go_simp
    · intro wS hS
      go_simp
      try rfl
    intro K hK
    go_simp
    refine hK _ ?_
    clear hK K
    refine wpT_two rfl rfl (fun K hK => ?_) (fun K hK => ?_)
    case refine_1 =>
      have k3 : ((((w.alloc (.cells #[.int .i64 t.kind, .string t.pkg, .string t.name, .slice A3 t.args.length c3, .slice A4 t.res.length c4] 26)).alloc (.cells #[.slice A names.length c] 36)).alloc (.cells #[.slice A' ts.length c'] 24)).alloc (.cells #[.int .i64 0, .string ⟨#[]⟩, .string ⟨#[]⟩, .slice none 0 0, .slice none 0 0] 26)).drew.cell? ⟨w.heap.size, 3, none⟩ = some (.slice A3 t.args.length c3) := (cell_at HBT0.out 3).trans rfl
      go_wp2_with fail
      clear k3
      refine hK _ _ trivial ?_
      clear hK K
      refine wpT_two rfl rfl (fun K hK => ?_) (fun K hK => ?_)
      case refine_1 =>
        go_wp2_with fail
        refine (eachTy_any ((((w.alloc (.cells #[.int .i64 t.kind, .string t.pkg, .string t.name, .slice A3 t.args.length c3, .slice A4 t.res.length c4] 26)).alloc (.cells #[.slice A names.length c] 36)).alloc (.cells #[.slice A' ts.length c'] 24)).alloc (.cells #[.int .i64 0, .string ⟨#[]⟩, .string ⟨#[]⟩, .slice none 0 0, .slice none 0 0] 26)).drew t.args A3 c3 (Q3.out.sub (Below.sub HB0.out)) NL3.out 52 #[.pointer (some ⟨w.heap.size + 1, 0, none⟩), .pointer (some ⟨w.heap.size + 1 + 1, 0, none⟩)] (putTy names ts) enters_put1 (fun x hx => put1_any ((((w.alloc (.cells #[.int .i64 t.kind, .string t.pkg, .string t.name, .slice A3 t.args.length c3, .slice A4 t.res.length c4] 26)).alloc (.cells #[.slice A names.length c] 36)).alloc (.cells #[.slice A' ts.length c'] 24)).alloc (.cells #[.int .i64 0, .string ⟨#[]⟩, .string ⟨#[]⟩, .slice none 0 0, .slice none 0 0] 26)).drew _ _ (by have := HSZ.out; have := HW0.out; omega) (by have := HSZ.out; have := HW0.out; omega) ((cell_at HBN0.out 0).trans rfl) ((cell_at HBS0.out 0).trans rfl) (HNM.out.sub (Below.sub HB0.out)) (HTS.out.sub (Below.sub HB0.out)) x (OC3.out x hx))).mono ?_
        rintro e w1 ⟨B3, d3, rfl, hd, _, hb⟩
        have HL3 := Lib.hid (new_sl hd)
        have HBT1 := Lib.hid ((hb.block _ (lt_of_block HBT0.out)).trans HBT0.out)
        have HBN1 := Lib.hid ((hb.block _ (lt_of_block HBN0.out)).trans HBN0.out)
        have HBS1 := Lib.hid ((hb.block _ (lt_of_block HBS0.out)).trans HBS0.out)
        have HBR1 := Lib.hid ((hb.block _ (lt_of_block HBR0.out)).trans HBR0.out)
        have HB1 := Lib.hid (HB0.out.trans (hb.mono HB0.out.size))
        have HW1 := Lib.hid (Nat.le_trans HW0.out hb.size)
        have HC1 := Lib.hid (below_none hb)
        clear hd hb
        rw [List.length_map]
        go_wp2_with fail
        refine hK _ _ trivial ?_
        clear hK K
        refine wpT_one rfl (fun K hK => ?_)
        have k4 : w1.cell? ⟨w.heap.size, 4, none⟩ = some (.slice A4 t.res.length c4) := (cell_at HBT1.out 4).trans rfl
        go_wp2_with fail
        clear k4
        refine hK _ _ trivial ?_
        clear hK K
        apply wpT_get rfl
        · go_simp
        · intro wS hS
          go_simp
          try rfl
        intro K hK
        go_simp
        refine hK _ ?_
        clear hK K
        refine wpT_one rfl (fun K hK => ?_)
        go_wp2_with fail
        refine (eachTy_any w1 t.res A4 c4 (Q4.out.sub (Below.sub HB1.out)) NL4.out 52 #[.pointer (some ⟨w.heap.size + 1, 0, none⟩), .pointer (some ⟨w.heap.size + 1 + 1, 0, none⟩)] (putTy names ts) enters_put1 (fun x hx => put1_any w1 _ _ (by have := HSZ.out; have := HW1.out; omega) (by have := HSZ.out; have := HW1.out; omega) ((cell_at HBN1.out 0).trans rfl) ((cell_at HBS1.out 0).trans rfl) (HNM.out.sub (Below.sub HB1.out)) (HTS.out.sub (Below.sub HB1.out)) x (OC4.out x hx))).mono ?_
        rintro e w2 ⟨B4, d4, rfl, hd, _, hb⟩
        have HL4 := Lib.hid (new_sl hd)
        have HBT2 := Lib.hid ((hb.block _ (lt_of_block HBT1.out)).trans HBT1.out)
        have HBN2 := Lib.hid ((hb.block _ (lt_of_block HBN1.out)).trans HBN1.out)
        have HBS2 := Lib.hid ((hb.block _ (lt_of_block HBS1.out)).trans HBS1.out)
        have HBR2 := Lib.hid ((hb.block _ (lt_of_block HBR1.out)).trans HBR1.out)
        have HB2 := Lib.hid (HB1.out.trans (hb.mono HB1.out.size))
        have HW2 := Lib.hid (Nat.le_trans HW1.out hb.size)
        have HC2 := Lib.hid (below_none hb)
        clear hd hb
        rw [List.length_map]
        go_wp2_with fail
        refine hK _ _ trivial ?_
        clear hK K
        have HT3 := Lib.hid (show (w2.setCell ⟨w.heap.size, 3, none⟩ (.slice B3 t.args.length d3)).heap[w.heap.size]? = some (.cells #[.int .i64 t.kind, .string t.pkg, .string t.name, .slice B3 t.args.length d3, .slice A4 t.res.length c4] 26 (0, 0)) from set_at HBT2.out 3 (.slice B3 t.args.length d3))
        have HT4 := Lib.hid (show ((w2.setCell ⟨w.heap.size, 3, none⟩ (.slice B3 t.args.length d3)).setCell ⟨w.heap.size, 4, none⟩ (.slice B4 t.res.length d4)).heap[w.heap.size]? = some (.cells #[.int .i64 t.kind, .string t.pkg, .string t.name, .slice B3 t.args.length d3, .slice B4 t.res.length d4] 26 (0, 0)) from set_at HT3.out 4 (.slice B4 t.res.length d4))
        have HR4 := Lib.hid (show ((w2.setCell ⟨w.heap.size, 3, none⟩ (.slice B3 t.args.length d3)).setCell ⟨w.heap.size, 4, none⟩ (.slice B4 t.res.length d4)).heap[w.heap.size + 1 + 1 + 1]? = some (.cells #[.int .i64 0, .string ⟨#[]⟩, .string ⟨#[]⟩, .slice none 0 0, .slice none 0 0] 26 (0, 0)) from set_old (set_old HBR2.out (p := ⟨w.heap.size, 3, none⟩) (by simp; omega) _) (p := ⟨w.heap.size, 4, none⟩) (by simp; omega) _)
        have u3 : w2.cell? ⟨w.heap.size, 3, none⟩ = some (.slice A3 t.args.length c3) := (cell_at HBT2.out 3).trans rfl
        have v3 : w2.frozen? ⟨w.heap.size, 3, none⟩ = false := free_at HBT2.out 3
        refine wpT_one rfl (fun K hK => ?_)
        go_wp2_with fail
        clear u3 v3
        refine hK _ _ trivial ?_
        clear hK K
        apply wpT_get rfl
        · go_simp
        · intro wS hS
          go_simp
          try rfl
        intro K hK
        go_simp
        refine hK _ ?_
        clear hK K
        have u4 : (w2.setCell ⟨w.heap.size, 3, none⟩ (.slice B3 t.args.length d3)).cell? ⟨w.heap.size, 4, none⟩ = some (.slice A4 t.res.length c4) := (cell_at HT3.out 4).trans rfl
        have v4 : (w2.setCell ⟨w.heap.size, 3, none⟩ (.slice B3 t.args.length d3)).frozen? ⟨w.heap.size, 4, none⟩ = false := free_at HT3.out 4
        refine wpT_one rfl (fun K hK => ?_)
        go_wp2_with fail
        clear u4 v4
        refine hK _ _ trivial ?_
        clear hK K
        refine wpT_doneN ?_
        have t0_ : ((w2.setCell ⟨w.heap.size, 3, none⟩ (.slice B3 t.args.length d3)).setCell ⟨w.heap.size, 4, none⟩ (.slice B4 t.res.length d4)).cell? ⟨w.heap.size, 0, none⟩ = some (.int .i64 t.kind) := (cell_at HT4.out 0).trans rfl
        have r0_ : ((w2.setCell ⟨w.heap.size, 3, none⟩ (.slice B3 t.args.length d3)).setCell ⟨w.heap.size, 4, none⟩ (.slice B4 t.res.length d4)).cell? ⟨w.heap.size + 1 + 1 + 1, 0, none⟩ = some (.int .i64 0) := (cell_at HR4.out 0).trans rfl
        have s0_ : ((w2.setCell ⟨w.heap.size, 3, none⟩ (.slice B3 t.args.length d3)).setCell ⟨w.heap.size, 4, none⟩ (.slice B4 t.res.length d4)).frozen? ⟨w.heap.size + 1 + 1 + 1, 0, none⟩ = false := free_at HR4.out 0
        have t1_ : ((w2.setCell ⟨w.heap.size, 3, none⟩ (.slice B3 t.args.length d3)).setCell ⟨w.heap.size, 4, none⟩ (.slice B4 t.res.length d4)).cell? ⟨w.heap.size, 1, none⟩ = some (.string t.pkg) := (cell_at HT4.out 1).trans rfl
        have r1_ : ((w2.setCell ⟨w.heap.size, 3, none⟩ (.slice B3 t.args.length d3)).setCell ⟨w.heap.size, 4, none⟩ (.slice B4 t.res.length d4)).cell? ⟨w.heap.size + 1 + 1 + 1, 1, none⟩ = some (.string ⟨#[]⟩) := (cell_at HR4.out 1).trans rfl
        have s1_ : ((w2.setCell ⟨w.heap.size, 3, none⟩ (.slice B3 t.args.length d3)).setCell ⟨w.heap.size, 4, none⟩ (.slice B4 t.res.length d4)).frozen? ⟨w.heap.size + 1 + 1 + 1, 1, none⟩ = false := free_at HR4.out 1
        have t2_ : ((w2.setCell ⟨w.heap.size, 3, none⟩ (.slice B3 t.args.length d3)).setCell ⟨w.heap.size, 4, none⟩ (.slice B4 t.res.length d4)).cell? ⟨w.heap.size, 2, none⟩ = some (.string t.name) := (cell_at HT4.out 2).trans rfl
        have r2_ : ((w2.setCell ⟨w.heap.size, 3, none⟩ (.slice B3 t.args.length d3)).setCell ⟨w.heap.size, 4, none⟩ (.slice B4 t.res.length d4)).cell? ⟨w.heap.size + 1 + 1 + 1, 2, none⟩ = some (.string ⟨#[]⟩) := (cell_at HR4.out 2).trans rfl
        have s2_ : ((w2.setCell ⟨w.heap.size, 3, none⟩ (.slice B3 t.args.length d3)).setCell ⟨w.heap.size, 4, none⟩ (.slice B4 t.res.length d4)).frozen? ⟨w.heap.size + 1 + 1 + 1, 2, none⟩ = false := free_at HR4.out 2
        have t3_ : ((w2.setCell ⟨w.heap.size, 3, none⟩ (.slice B3 t.args.length d3)).setCell ⟨w.heap.size, 4, none⟩ (.slice B4 t.res.length d4)).cell? ⟨w.heap.size, 3, none⟩ = some (.slice B3 t.args.length d3) := (cell_at HT4.out 3).trans rfl
        have r3_ : ((w2.setCell ⟨w.heap.size, 3, none⟩ (.slice B3 t.args.length d3)).setCell ⟨w.heap.size, 4, none⟩ (.slice B4 t.res.length d4)).cell? ⟨w.heap.size + 1 + 1 + 1, 3, none⟩ = some (.slice none 0 0) := (cell_at HR4.out 3).trans rfl
        have s3_ : ((w2.setCell ⟨w.heap.size, 3, none⟩ (.slice B3 t.args.length d3)).setCell ⟨w.heap.size, 4, none⟩ (.slice B4 t.res.length d4)).frozen? ⟨w.heap.size + 1 + 1 + 1, 3, none⟩ = false := free_at HR4.out 3
        have t4_ : ((w2.setCell ⟨w.heap.size, 3, none⟩ (.slice B3 t.args.length d3)).setCell ⟨w.heap.size, 4, none⟩ (.slice B4 t.res.length d4)).cell? ⟨w.heap.size, 4, none⟩ = some (.slice B4 t.res.length d4) := (cell_at HT4.out 4).trans rfl
        have r4_ : ((w2.setCell ⟨w.heap.size, 3, none⟩ (.slice B3 t.args.length d3)).setCell ⟨w.heap.size, 4, none⟩ (.slice B4 t.res.length d4)).cell? ⟨w.heap.size + 1 + 1 + 1, 4, none⟩ = some (.slice none 0 0) := (cell_at HR4.out 4).trans rfl
        have s4_ : ((w2.setCell ⟨w.heap.size, 3, none⟩ (.slice B3 t.args.length d3)).setCell ⟨w.heap.size, 4, none⟩ (.slice B4 t.res.length d4)).frozen? ⟨w.heap.size + 1 + 1 + 1, 4, none⟩ = false := free_at HR4.out 4
        have h0_ : (((w2.setCell ⟨w.heap.size, 3, none⟩ (.slice B3 t.args.length d3)).setCell ⟨w.heap.size, 4, none⟩ (.slice B4 t.res.length d4)).setCell ⟨w.heap.size + 1 + 1 + 1, 0, none⟩ (.int .i64 t.kind)).heap[w.heap.size + 1 + 1 + 1]? = some (.cells #[.int .i64 t.kind, .string ⟨#[]⟩, .string ⟨#[]⟩, .slice none 0 0, .slice none 0 0] 26 (0, 0)) := set_at HR4.out 0 (.int .i64 t.kind)
        have h1_ : ((((w2.setCell ⟨w.heap.size, 3, none⟩ (.slice B3 t.args.length d3)).setCell ⟨w.heap.size, 4, none⟩ (.slice B4 t.res.length d4)).setCell ⟨w.heap.size + 1 + 1 + 1, 0, none⟩ (.int .i64 t.kind)).setCell ⟨w.heap.size + 1 + 1 + 1, 1, none⟩ (.string t.pkg)).heap[w.heap.size + 1 + 1 + 1]? = some (.cells #[.int .i64 t.kind, .string t.pkg, .string ⟨#[]⟩, .slice none 0 0, .slice none 0 0] 26 (0, 0)) := set_at h0_ 1 (.string t.pkg)
        have h2_ : (((((w2.setCell ⟨w.heap.size, 3, none⟩ (.slice B3 t.args.length d3)).setCell ⟨w.heap.size, 4, none⟩ (.slice B4 t.res.length d4)).setCell ⟨w.heap.size + 1 + 1 + 1, 0, none⟩ (.int .i64 t.kind)).setCell ⟨w.heap.size + 1 + 1 + 1, 1, none⟩ (.string t.pkg)).setCell ⟨w.heap.size + 1 + 1 + 1, 2, none⟩ (.string t.name)).heap[w.heap.size + 1 + 1 + 1]? = some (.cells #[.int .i64 t.kind, .string t.pkg, .string t.name, .slice none 0 0, .slice none 0 0] 26 (0, 0)) := set_at h1_ 2 (.string t.name)
        have h3_ : ((((((w2.setCell ⟨w.heap.size, 3, none⟩ (.slice B3 t.args.length d3)).setCell ⟨w.heap.size, 4, none⟩ (.slice B4 t.res.length d4)).setCell ⟨w.heap.size + 1 + 1 + 1, 0, none⟩ (.int .i64 t.kind)).setCell ⟨w.heap.size + 1 + 1 + 1, 1, none⟩ (.string t.pkg)).setCell ⟨w.heap.size + 1 + 1 + 1, 2, none⟩ (.string t.name)).setCell ⟨w.heap.size + 1 + 1 + 1, 3, none⟩ (.slice B3 t.args.length d3)).heap[w.heap.size + 1 + 1 + 1]? = some (.cells #[.int .i64 t.kind, .string t.pkg, .string t.name, .slice B3 t.args.length d3, .slice none 0 0] 26 (0, 0)) := set_at h2_ 3 (.slice B3 t.args.length d3)
        have h4_ : (((((((w2.setCell ⟨w.heap.size, 3, none⟩ (.slice B3 t.args.length d3)).setCell ⟨w.heap.size, 4, none⟩ (.slice B4 t.res.length d4)).setCell ⟨w.heap.size + 1 + 1 + 1, 0, none⟩ (.int .i64 t.kind)).setCell ⟨w.heap.size + 1 + 1 + 1, 1, none⟩ (.string t.pkg)).setCell ⟨w.heap.size + 1 + 1 + 1, 2, none⟩ (.string t.name)).setCell ⟨w.heap.size + 1 + 1 + 1, 3, none⟩ (.slice B3 t.args.length d3)).setCell ⟨w.heap.size + 1 + 1 + 1, 4, none⟩ (.slice B4 t.res.length d4)).heap[w.heap.size + 1 + 1 + 1]? = some (.cells #[.int .i64 t.kind, .string t.pkg, .string t.name, .slice B3 t.args.length d3, .slice B4 t.res.length d4] 26 (0, 0)) := set_at h3_ 4 (.slice B4 t.res.length d4)
        have hset : Chg (fun k => k = w.heap.size ∨ k = w.heap.size + 1 + 1 + 1) w2 (((((((w2.setCell ⟨w.heap.size, 3, none⟩ (.slice B3 t.args.length d3)).setCell ⟨w.heap.size, 4, none⟩ (.slice B4 t.res.length d4)).setCell ⟨w.heap.size + 1 + 1 + 1, 0, none⟩ (.int .i64 t.kind)).setCell ⟨w.heap.size + 1 + 1 + 1, 1, none⟩ (.string t.pkg)).setCell ⟨w.heap.size + 1 + 1 + 1, 2, none⟩ (.string t.name)).setCell ⟨w.heap.size + 1 + 1 + 1, 3, none⟩ (.slice B3 t.args.length d3)).setCell ⟨w.heap.size + 1 + 1 + 1, 4, none⟩ (.slice B4 t.res.length d4)) := ((((((((Chg.refl (fun k => k = w.heap.size ∨ k = w.heap.size + 1 + 1 + 1) w2).setCell (p := ⟨w.heap.size, 3, none⟩) (fun _ => .inl rfl) (.slice B3 t.args.length d3)).setCell (p := ⟨w.heap.size, 4, none⟩) (fun _ => .inl rfl) (.slice B4 t.res.length d4)).setCell (p := ⟨w.heap.size + 1 + 1 + 1, 0, none⟩) (fun _ => .inr rfl) (.int .i64 t.kind)).setCell (p := ⟨w.heap.size + 1 + 1 + 1, 1, none⟩) (fun _ => .inr rfl) (.string t.pkg)).setCell (p := ⟨w.heap.size + 1 + 1 + 1, 2, none⟩) (fun _ => .inr rfl) (.string t.name)).setCell (p := ⟨w.heap.size + 1 + 1 + 1, 3, none⟩) (fun _ => .inr rfl) (.slice B3 t.args.length d3)).setCell (p := ⟨w.heap.size + 1 + 1 + 1, 4, none⟩) (fun _ => .inr rfl) (.slice B4 t.res.length d4))
        have HSET := Lib.hid hset
        have hd : ∀ (i : Nat) (v : Value), ([.int .i64 t.kind, .string t.pkg, .string t.name, .slice B3 t.args.length d3, .slice B4 t.res.length d4] : List Value)[i]? = some v → (((((((w2.setCell ⟨w.heap.size, 3, none⟩ (.slice B3 t.args.length d3)).setCell ⟨w.heap.size, 4, none⟩ (.slice B4 t.res.length d4)).setCell ⟨w.heap.size + 1 + 1 + 1, 0, none⟩ (.int .i64 t.kind)).setCell ⟨w.heap.size + 1 + 1 + 1, 1, none⟩ (.string t.pkg)).setCell ⟨w.heap.size + 1 + 1 + 1, 2, none⟩ (.string t.name)).setCell ⟨w.heap.size + 1 + 1 + 1, 3, none⟩ (.slice B3 t.args.length d3)).setCell ⟨w.heap.size + 1 + 1 + 1, 4, none⟩ (.slice B4 t.res.length d4)).cell? ⟨w.heap.size + 1 + 1 + 1, i, none⟩ = some v := fun i v q => by rw [cell_at h4_]; simpa using q
        have HD := Lib.hid hd
        have HF := Lib.hid (Below.chg HB2.out HSET.out HB2.out.size (fun i q => by omega))
        have HL3 := Lib.hid ((HL3.out.later HC2.out (fun k q => q.elim)).later HSET.out (fun k q => by have := HSZ.out; have := HW0.out; omega))
        have HL4 := Lib.hid (HL4.out.later HSET.out (fun k q => by have := HSZ.out; have := HW1.out; omega))
        clear hd hset h0_ h1_ h2_ h3_ h4_
        go_wp2_with fail
        refine bodyPost_ret (v := .agg #[.int .i64 t.kind, .string t.pkg, .string t.name, .slice B3 t.args.length d3, .slice B4 t.res.length d4]) (by have d0 := HD.out 0 _ rfl; have d1 := HD.out 1 _ rfl; have d2 := HD.out 2 _ rfl; have d3_ := HD.out 3 _ rfl; have d4_ := HD.out 4 _ rfl; simp [results, Try.results26, go_sem, d0, d1, d2, d3_, d4_]) rfl ?_
        refine ⟨_, rfl, ?_, HF.out⟩
        rw [HEQ.out]
        have hl3 := HL3.out.low (n' := w.heap.size) (by have := HSZ.out; have := HW0.out; omega)
        have hl4 := HL4.out.low (n' := w.heap.size) (by have := HSZ.out; have := HW1.out; omega)
        rw [List.length_map] at hl3 hl4
        have := Ty.shut (w := NewW w.heap.size none _) (t := .mk t.kind t.pkg t.name (t.args.map (putTy names ts)) (t.res.map (putTy names ts))) Q0.out Q1.out Q2.out (by simp only [Ty.args, List.length_map]; exact hl3) (by simp only [Ty.res, List.length_map]; exact hl4)
        simpa only [Ty.args, Ty.res, Ty.kind, Ty.pkg, Ty.name, List.length_map] using this
      case refine_2 =>
        have k4 : ((((w.alloc (.cells #[.int .i64 t.kind, .string t.pkg, .string t.name, .slice A3 t.args.length c3, .slice A4 t.res.length c4] 26)).alloc (.cells #[.slice A names.length c] 36)).alloc (.cells #[.slice A' ts.length c'] 24)).alloc (.cells #[.int .i64 0, .string ⟨#[]⟩, .string ⟨#[]⟩, .slice none 0 0, .slice none 0 0] 26)).drew.cell? ⟨w.heap.size, 4, none⟩ = some (.slice A4 t.res.length c4) := (cell_at HBT0.out 4).trans rfl
        go_wp2_with fail
        clear k4
        refine hK _ _ trivial ?_
        clear hK K
        refine wpT_one rfl (fun K hK => ?_)
        go_wp2_with fail
        refine (eachTy_any ((((w.alloc (.cells #[.int .i64 t.kind, .string t.pkg, .string t.name, .slice A3 t.args.length c3, .slice A4 t.res.length c4] 26)).alloc (.cells #[.slice A names.length c] 36)).alloc (.cells #[.slice A' ts.length c'] 24)).alloc (.cells #[.int .i64 0, .string ⟨#[]⟩, .string ⟨#[]⟩, .slice none 0 0, .slice none 0 0] 26)).drew t.args A3 c3 (Q3.out.sub (Below.sub HB0.out)) NL3.out 52 #[.pointer (some ⟨w.heap.size + 1, 0, none⟩), .pointer (some ⟨w.heap.size + 1 + 1, 0, none⟩)] (putTy names ts) enters_put1 (fun x hx => put1_any ((((w.alloc (.cells #[.int .i64 t.kind, .string t.pkg, .string t.name, .slice A3 t.args.length c3, .slice A4 t.res.length c4] 26)).alloc (.cells #[.slice A names.length c] 36)).alloc (.cells #[.slice A' ts.length c'] 24)).alloc (.cells #[.int .i64 0, .string ⟨#[]⟩, .string ⟨#[]⟩, .slice none 0 0, .slice none 0 0] 26)).drew _ _ (by have := HSZ.out; have := HW0.out; omega) (by have := HSZ.out; have := HW0.out; omega) ((cell_at HBN0.out 0).trans rfl) ((cell_at HBS0.out 0).trans rfl) (HNM.out.sub (Below.sub HB0.out)) (HTS.out.sub (Below.sub HB0.out)) x (OC3.out x hx))).mono ?_
        rintro e w1 ⟨B3, d3, rfl, hd, _, hb⟩
        have HL3 := Lib.hid (new_sl hd)
        have HBT1 := Lib.hid ((hb.block _ (lt_of_block HBT0.out)).trans HBT0.out)
        have HBN1 := Lib.hid ((hb.block _ (lt_of_block HBN0.out)).trans HBN0.out)
        have HBS1 := Lib.hid ((hb.block _ (lt_of_block HBS0.out)).trans HBS0.out)
        have HBR1 := Lib.hid ((hb.block _ (lt_of_block HBR0.out)).trans HBR0.out)
        have HB1 := Lib.hid (HB0.out.trans (hb.mono HB0.out.size))
        have HW1 := Lib.hid (Nat.le_trans HW0.out hb.size)
        have HC1 := Lib.hid (below_none hb)
        clear hd hb
        rw [List.length_map]
        go_wp2_with fail
        refine hK _ _ trivial ?_
        clear hK K
        apply wpT_get rfl
        · go_simp
        · intro wS hS
          go_simp
          try rfl
        intro K hK
        go_simp
        refine hK _ ?_
        clear hK K
        refine wpT_one rfl (fun K hK => ?_)
        go_wp2_with fail
        refine (eachTy_any w1 t.res A4 c4 (Q4.out.sub (Below.sub HB1.out)) NL4.out 52 #[.pointer (some ⟨w.heap.size + 1, 0, none⟩), .pointer (some ⟨w.heap.size + 1 + 1, 0, none⟩)] (putTy names ts) enters_put1 (fun x hx => put1_any w1 _ _ (by have := HSZ.out; have := HW1.out; omega) (by have := HSZ.out; have := HW1.out; omega) ((cell_at HBN1.out 0).trans rfl) ((cell_at HBS1.out 0).trans rfl) (HNM.out.sub (Below.sub HB1.out)) (HTS.out.sub (Below.sub HB1.out)) x (OC4.out x hx))).mono ?_
        rintro e w2 ⟨B4, d4, rfl, hd, _, hb⟩
        have HL4 := Lib.hid (new_sl hd)
        have HBT2 := Lib.hid ((hb.block _ (lt_of_block HBT1.out)).trans HBT1.out)
        have HBN2 := Lib.hid ((hb.block _ (lt_of_block HBN1.out)).trans HBN1.out)
        have HBS2 := Lib.hid ((hb.block _ (lt_of_block HBS1.out)).trans HBS1.out)
        have HBR2 := Lib.hid ((hb.block _ (lt_of_block HBR1.out)).trans HBR1.out)
        have HB2 := Lib.hid (HB1.out.trans (hb.mono HB1.out.size))
        have HW2 := Lib.hid (Nat.le_trans HW1.out hb.size)
        have HC2 := Lib.hid (below_none hb)
        clear hd hb
        rw [List.length_map]
        go_wp2_with fail
        refine hK _ _ trivial ?_
        clear hK K
        have HT3 := Lib.hid (show (w2.setCell ⟨w.heap.size, 3, none⟩ (.slice B3 t.args.length d3)).heap[w.heap.size]? = some (.cells #[.int .i64 t.kind, .string t.pkg, .string t.name, .slice B3 t.args.length d3, .slice A4 t.res.length c4] 26 (0, 0)) from set_at HBT2.out 3 (.slice B3 t.args.length d3))
        have HT4 := Lib.hid (show ((w2.setCell ⟨w.heap.size, 3, none⟩ (.slice B3 t.args.length d3)).setCell ⟨w.heap.size, 4, none⟩ (.slice B4 t.res.length d4)).heap[w.heap.size]? = some (.cells #[.int .i64 t.kind, .string t.pkg, .string t.name, .slice B3 t.args.length d3, .slice B4 t.res.length d4] 26 (0, 0)) from set_at HT3.out 4 (.slice B4 t.res.length d4))
        have HR4 := Lib.hid (show ((w2.setCell ⟨w.heap.size, 3, none⟩ (.slice B3 t.args.length d3)).setCell ⟨w.heap.size, 4, none⟩ (.slice B4 t.res.length d4)).heap[w.heap.size + 1 + 1 + 1]? = some (.cells #[.int .i64 0, .string ⟨#[]⟩, .string ⟨#[]⟩, .slice none 0 0, .slice none 0 0] 26 (0, 0)) from set_old (set_old HBR2.out (p := ⟨w.heap.size, 3, none⟩) (by simp; omega) _) (p := ⟨w.heap.size, 4, none⟩) (by simp; omega) _)
        have u3 : w2.cell? ⟨w.heap.size, 3, none⟩ = some (.slice A3 t.args.length c3) := (cell_at HBT2.out 3).trans rfl
        have v3 : w2.frozen? ⟨w.heap.size, 3, none⟩ = false := free_at HBT2.out 3
        refine wpT_one rfl (fun K hK => ?_)
        go_wp2_with fail
        clear u3 v3
        refine hK _ _ trivial ?_
        clear hK K
        apply wpT_get rfl
        · go_simp
        · intro wS hS
          go_simp
          try rfl
        intro K hK
        go_simp
        refine hK _ ?_
        clear hK K
        have u4 : (w2.setCell ⟨w.heap.size, 3, none⟩ (.slice B3 t.args.length d3)).cell? ⟨w.heap.size, 4, none⟩ = some (.slice A4 t.res.length c4) := (cell_at HT3.out 4).trans rfl
        have v4 : (w2.setCell ⟨w.heap.size, 3, none⟩ (.slice B3 t.args.length d3)).frozen? ⟨w.heap.size, 4, none⟩ = false := free_at HT3.out 4
        refine wpT_one rfl (fun K hK => ?_)
        go_wp2_with fail
        clear u4 v4
        refine hK _ _ trivial ?_
        clear hK K
        refine wpT_doneN ?_
        have t0_ : ((w2.setCell ⟨w.heap.size, 3, none⟩ (.slice B3 t.args.length d3)).setCell ⟨w.heap.size, 4, none⟩ (.slice B4 t.res.length d4)).cell? ⟨w.heap.size, 0, none⟩ = some (.int .i64 t.kind) := (cell_at HT4.out 0).trans rfl
        have r0_ : ((w2.setCell ⟨w.heap.size, 3, none⟩ (.slice B3 t.args.length d3)).setCell ⟨w.heap.size, 4, none⟩ (.slice B4 t.res.length d4)).cell? ⟨w.heap.size + 1 + 1 + 1, 0, none⟩ = some (.int .i64 0) := (cell_at HR4.out 0).trans rfl
        have s0_ : ((w2.setCell ⟨w.heap.size, 3, none⟩ (.slice B3 t.args.length d3)).setCell ⟨w.heap.size, 4, none⟩ (.slice B4 t.res.length d4)).frozen? ⟨w.heap.size + 1 + 1 + 1, 0, none⟩ = false := free_at HR4.out 0
        have t1_ : ((w2.setCell ⟨w.heap.size, 3, none⟩ (.slice B3 t.args.length d3)).setCell ⟨w.heap.size, 4, none⟩ (.slice B4 t.res.length d4)).cell? ⟨w.heap.size, 1, none⟩ = some (.string t.pkg) := (cell_at HT4.out 1).trans rfl
        have r1_ : ((w2.setCell ⟨w.heap.size, 3, none⟩ (.slice B3 t.args.length d3)).setCell ⟨w.heap.size, 4, none⟩ (.slice B4 t.res.length d4)).cell? ⟨w.heap.size + 1 + 1 + 1, 1, none⟩ = some (.string ⟨#[]⟩) := (cell_at HR4.out 1).trans rfl
        have s1_ : ((w2.setCell ⟨w.heap.size, 3, none⟩ (.slice B3 t.args.length d3)).setCell ⟨w.heap.size, 4, none⟩ (.slice B4 t.res.length d4)).frozen? ⟨w.heap.size + 1 + 1 + 1, 1, none⟩ = false := free_at HR4.out 1
        have t2_ : ((w2.setCell ⟨w.heap.size, 3, none⟩ (.slice B3 t.args.length d3)).setCell ⟨w.heap.size, 4, none⟩ (.slice B4 t.res.length d4)).cell? ⟨w.heap.size, 2, none⟩ = some (.string t.name) := (cell_at HT4.out 2).trans rfl
        have r2_ : ((w2.setCell ⟨w.heap.size, 3, none⟩ (.slice B3 t.args.length d3)).setCell ⟨w.heap.size, 4, none⟩ (.slice B4 t.res.length d4)).cell? ⟨w.heap.size + 1 + 1 + 1, 2, none⟩ = some (.string ⟨#[]⟩) := (cell_at HR4.out 2).trans rfl
        have s2_ : ((w2.setCell ⟨w.heap.size, 3, none⟩ (.slice B3 t.args.length d3)).setCell ⟨w.heap.size, 4, none⟩ (.slice B4 t.res.length d4)).frozen? ⟨w.heap.size + 1 + 1 + 1, 2, none⟩ = false := free_at HR4.out 2
        have t3_ : ((w2.setCell ⟨w.heap.size, 3, none⟩ (.slice B3 t.args.length d3)).setCell ⟨w.heap.size, 4, none⟩ (.slice B4 t.res.length d4)).cell? ⟨w.heap.size, 3, none⟩ = some (.slice B3 t.args.length d3) := (cell_at HT4.out 3).trans rfl
        have r3_ : ((w2.setCell ⟨w.heap.size, 3, none⟩ (.slice B3 t.args.length d3)).setCell ⟨w.heap.size, 4, none⟩ (.slice B4 t.res.length d4)).cell? ⟨w.heap.size + 1 + 1 + 1, 3, none⟩ = some (.slice none 0 0) := (cell_at HR4.out 3).trans rfl
        have s3_ : ((w2.setCell ⟨w.heap.size, 3, none⟩ (.slice B3 t.args.length d3)).setCell ⟨w.heap.size, 4, none⟩ (.slice B4 t.res.length d4)).frozen? ⟨w.heap.size + 1 + 1 + 1, 3, none⟩ = false := free_at HR4.out 3
        have t4_ : ((w2.setCell ⟨w.heap.size, 3, none⟩ (.slice B3 t.args.length d3)).setCell ⟨w.heap.size, 4, none⟩ (.slice B4 t.res.length d4)).cell? ⟨w.heap.size, 4, none⟩ = some (.slice B4 t.res.length d4) := (cell_at HT4.out 4).trans rfl
        have r4_ : ((w2.setCell ⟨w.heap.size, 3, none⟩ (.slice B3 t.args.length d3)).setCell ⟨w.heap.size, 4, none⟩ (.slice B4 t.res.length d4)).cell? ⟨w.heap.size + 1 + 1 + 1, 4, none⟩ = some (.slice none 0 0) := (cell_at HR4.out 4).trans rfl
        have s4_ : ((w2.setCell ⟨w.heap.size, 3, none⟩ (.slice B3 t.args.length d3)).setCell ⟨w.heap.size, 4, none⟩ (.slice B4 t.res.length d4)).frozen? ⟨w.heap.size + 1 + 1 + 1, 4, none⟩ = false := free_at HR4.out 4
        have h0_ : (((w2.setCell ⟨w.heap.size, 3, none⟩ (.slice B3 t.args.length d3)).setCell ⟨w.heap.size, 4, none⟩ (.slice B4 t.res.length d4)).setCell ⟨w.heap.size + 1 + 1 + 1, 0, none⟩ (.int .i64 t.kind)).heap[w.heap.size + 1 + 1 + 1]? = some (.cells #[.int .i64 t.kind, .string ⟨#[]⟩, .string ⟨#[]⟩, .slice none 0 0, .slice none 0 0] 26 (0, 0)) := set_at HR4.out 0 (.int .i64 t.kind)
        have h1_ : ((((w2.setCell ⟨w.heap.size, 3, none⟩ (.slice B3 t.args.length d3)).setCell ⟨w.heap.size, 4, none⟩ (.slice B4 t.res.length d4)).setCell ⟨w.heap.size + 1 + 1 + 1, 0, none⟩ (.int .i64 t.kind)).setCell ⟨w.heap.size + 1 + 1 + 1, 1, none⟩ (.string t.pkg)).heap[w.heap.size + 1 + 1 + 1]? = some (.cells #[.int .i64 t.kind, .string t.pkg, .string ⟨#[]⟩, .slice none 0 0, .slice none 0 0] 26 (0, 0)) := set_at h0_ 1 (.string t.pkg)
        have h2_ : (((((w2.setCell ⟨w.heap.size, 3, none⟩ (.slice B3 t.args.length d3)).setCell ⟨w.heap.size, 4, none⟩ (.slice B4 t.res.length d4)).setCell ⟨w.heap.size + 1 + 1 + 1, 0, none⟩ (.int .i64 t.kind)).setCell ⟨w.heap.size + 1 + 1 + 1, 1, none⟩ (.string t.pkg)).setCell ⟨w.heap.size + 1 + 1 + 1, 2, none⟩ (.string t.name)).heap[w.heap.size + 1 + 1 + 1]? = some (.cells #[.int .i64 t.kind, .string t.pkg, .string t.name, .slice none 0 0, .slice none 0 0] 26 (0, 0)) := set_at h1_ 2 (.string t.name)
        have h3_ : ((((((w2.setCell ⟨w.heap.size, 3, none⟩ (.slice B3 t.args.length d3)).setCell ⟨w.heap.size, 4, none⟩ (.slice B4 t.res.length d4)).setCell ⟨w.heap.size + 1 + 1 + 1, 0, none⟩ (.int .i64 t.kind)).setCell ⟨w.heap.size + 1 + 1 + 1, 1, none⟩ (.string t.pkg)).setCell ⟨w.heap.size + 1 + 1 + 1, 2, none⟩ (.string t.name)).setCell ⟨w.heap.size + 1 + 1 + 1, 3, none⟩ (.slice B3 t.args.length d3)).heap[w.heap.size + 1 + 1 + 1]? = some (.cells #[.int .i64 t.kind, .string t.pkg, .string t.name, .slice B3 t.args.length d3, .slice none 0 0] 26 (0, 0)) := set_at h2_ 3 (.slice B3 t.args.length d3)
        have h4_ : (((((((w2.setCell ⟨w.heap.size, 3, none⟩ (.slice B3 t.args.length d3)).setCell ⟨w.heap.size, 4, none⟩ (.slice B4 t.res.length d4)).setCell ⟨w.heap.size + 1 + 1 + 1, 0, none⟩ (.int .i64 t.kind)).setCell ⟨w.heap.size + 1 + 1 + 1, 1, none⟩ (.string t.pkg)).setCell ⟨w.heap.size + 1 + 1 + 1, 2, none⟩ (.string t.name)).setCell ⟨w.heap.size + 1 + 1 + 1, 3, none⟩ (.slice B3 t.args.length d3)).setCell ⟨w.heap.size + 1 + 1 + 1, 4, none⟩ (.slice B4 t.res.length d4)).heap[w.heap.size + 1 + 1 + 1]? = some (.cells #[.int .i64 t.kind, .string t.pkg, .string t.name, .slice B3 t.args.length d3, .slice B4 t.res.length d4] 26 (0, 0)) := set_at h3_ 4 (.slice B4 t.res.length d4)
        have hset : Chg (fun k => k = w.heap.size ∨ k = w.heap.size + 1 + 1 + 1) w2 (((((((w2.setCell ⟨w.heap.size, 3, none⟩ (.slice B3 t.args.length d3)).setCell ⟨w.heap.size, 4, none⟩ (.slice B4 t.res.length d4)).setCell ⟨w.heap.size + 1 + 1 + 1, 0, none⟩ (.int .i64 t.kind)).setCell ⟨w.heap.size + 1 + 1 + 1, 1, none⟩ (.string t.pkg)).setCell ⟨w.heap.size + 1 + 1 + 1, 2, none⟩ (.string t.name)).setCell ⟨w.heap.size + 1 + 1 + 1, 3, none⟩ (.slice B3 t.args.length d3)).setCell ⟨w.heap.size + 1 + 1 + 1, 4, none⟩ (.slice B4 t.res.length d4)) := ((((((((Chg.refl (fun k => k = w.heap.size ∨ k = w.heap.size + 1 + 1 + 1) w2).setCell (p := ⟨w.heap.size, 3, none⟩) (fun _ => .inl rfl) (.slice B3 t.args.length d3)).setCell (p := ⟨w.heap.size, 4, none⟩) (fun _ => .inl rfl) (.slice B4 t.res.length d4)).setCell (p := ⟨w.heap.size + 1 + 1 + 1, 0, none⟩) (fun _ => .inr rfl) (.int .i64 t.kind)).setCell (p := ⟨w.heap.size + 1 + 1 + 1, 1, none⟩) (fun _ => .inr rfl) (.string t.pkg)).setCell (p := ⟨w.heap.size + 1 + 1 + 1, 2, none⟩) (fun _ => .inr rfl) (.string t.name)).setCell (p := ⟨w.heap.size + 1 + 1 + 1, 3, none⟩) (fun _ => .inr rfl) (.slice B3 t.args.length d3)).setCell (p := ⟨w.heap.size + 1 + 1 + 1, 4, none⟩) (fun _ => .inr rfl) (.slice B4 t.res.length d4))
        have HSET := Lib.hid hset
        have hd : ∀ (i : Nat) (v : Value), ([.int .i64 t.kind, .string t.pkg, .string t.name, .slice B3 t.args.length d3, .slice B4 t.res.length d4] : List Value)[i]? = some v → (((((((w2.setCell ⟨w.heap.size, 3, none⟩ (.slice B3 t.args.length d3)).setCell ⟨w.heap.size, 4, none⟩ (.slice B4 t.res.length d4)).setCell ⟨w.heap.size + 1 + 1 + 1, 0, none⟩ (.int .i64 t.kind)).setCell ⟨w.heap.size + 1 + 1 + 1, 1, none⟩ (.string t.pkg)).setCell ⟨w.heap.size + 1 + 1 + 1, 2, none⟩ (.string t.name)).setCell ⟨w.heap.size + 1 + 1 + 1, 3, none⟩ (.slice B3 t.args.length d3)).setCell ⟨w.heap.size + 1 + 1 + 1, 4, none⟩ (.slice B4 t.res.length d4)).cell? ⟨w.heap.size + 1 + 1 + 1, i, none⟩ = some v := fun i v q => by rw [cell_at h4_]; simpa using q
        have HD := Lib.hid hd
        have HF := Lib.hid (Below.chg HB2.out HSET.out HB2.out.size (fun i q => by omega))
        have HL3 := Lib.hid ((HL3.out.later HC2.out (fun k q => q.elim)).later HSET.out (fun k q => by have := HSZ.out; have := HW0.out; omega))
        have HL4 := Lib.hid (HL4.out.later HSET.out (fun k q => by have := HSZ.out; have := HW1.out; omega))
        clear hd hset h0_ h1_ h2_ h3_ h4_
        go_wp2_with fail
        refine bodyPost_ret (v := .agg #[.int .i64 t.kind, .string t.pkg, .string t.name, .slice B3 t.args.length d3, .slice B4 t.res.length d4]) (by have d0 := HD.out 0 _ rfl; have d1 := HD.out 1 _ rfl; have d2 := HD.out 2 _ rfl; have d3_ := HD.out 3 _ rfl; have d4_ := HD.out 4 _ rfl; simp [results, Try.results26, go_sem, d0, d1, d2, d3_, d4_]) rfl ?_
        refine ⟨_, rfl, ?_, HF.out⟩
        rw [HEQ.out]
        have hl3 := HL3.out.low (n' := w.heap.size) (by have := HSZ.out; have := HW0.out; omega)
        have hl4 := HL4.out.low (n' := w.heap.size) (by have := HSZ.out; have := HW1.out; omega)
        rw [List.length_map] at hl3 hl4
        have := Ty.shut (w := NewW w.heap.size none _) (t := .mk t.kind t.pkg t.name (t.args.map (putTy names ts)) (t.res.map (putTy names ts))) Q0.out Q1.out Q2.out (by simp only [Ty.args, List.length_map]; exact hl3) (by simp only [Ty.res, List.length_map]; exact hl4)
        simpa only [Ty.args, Ty.res, Ty.kind, Ty.pkg, Ty.name, List.length_map] using this
    case refine_2 =>
      have k4 : ((((w.alloc (.cells #[.int .i64 t.kind, .string t.pkg, .string t.name, .slice A3 t.args.length c3, .slice A4 t.res.length c4] 26)).alloc (.cells #[.slice A names.length c] 36)).alloc (.cells #[.slice A' ts.length c'] 24)).alloc (.cells #[.int .i64 0, .string ⟨#[]⟩, .string ⟨#[]⟩, .slice none 0 0, .slice none 0 0] 26)).drew.cell? ⟨w.heap.size, 4, none⟩ = some (.slice A4 t.res.length c4) := (cell_at HBT0.out 4).trans rfl
      go_wp2_with fail
      clear k4
      refine hK _ _ trivial ?_
      clear hK K
      refine wpT_one rfl (fun K hK => ?_)
      have k3 : ((((w.alloc (.cells #[.int .i64 t.kind, .string t.pkg, .string t.name, .slice A3 t.args.length c3, .slice A4 t.res.length c4] 26)).alloc (.cells #[.slice A names.length c] 36)).alloc (.cells #[.slice A' ts.length c'] 24)).alloc (.cells #[.int .i64 0, .string ⟨#[]⟩, .string ⟨#[]⟩, .slice none 0 0, .slice none 0 0] 26)).drew.cell? ⟨w.heap.size, 3, none⟩ = some (.slice A3 t.args.length c3) := (cell_at HBT0.out 3).trans rfl
      go_wp2_with fail
      clear k3
      refine hK _ _ trivial ?_
      clear hK K
      refine wpT_one rfl (fun K hK => ?_)
      go_wp2_with fail
      refine (eachTy_any ((((w.alloc (.cells #[.int .i64 t.kind, .string t.pkg, .string t.name, .slice A3 t.args.length c3, .slice A4 t.res.length c4] 26)).alloc (.cells #[.slice A names.length c] 36)).alloc (.cells #[.slice A' ts.length c'] 24)).alloc (.cells #[.int .i64 0, .string ⟨#[]⟩, .string ⟨#[]⟩, .slice none 0 0, .slice none 0 0] 26)).drew t.args A3 c3 (Q3.out.sub (Below.sub HB0.out)) NL3.out 52 #[.pointer (some ⟨w.heap.size + 1, 0, none⟩), .pointer (some ⟨w.heap.size + 1 + 1, 0, none⟩)] (putTy names ts) enters_put1 (fun x hx => put1_any ((((w.alloc (.cells #[.int .i64 t.kind, .string t.pkg, .string t.name, .slice A3 t.args.length c3, .slice A4 t.res.length c4] 26)).alloc (.cells #[.slice A names.length c] 36)).alloc (.cells #[.slice A' ts.length c'] 24)).alloc (.cells #[.int .i64 0, .string ⟨#[]⟩, .string ⟨#[]⟩, .slice none 0 0, .slice none 0 0] 26)).drew _ _ (by have := HSZ.out; have := HW0.out; omega) (by have := HSZ.out; have := HW0.out; omega) ((cell_at HBN0.out 0).trans rfl) ((cell_at HBS0.out 0).trans rfl) (HNM.out.sub (Below.sub HB0.out)) (HTS.out.sub (Below.sub HB0.out)) x (OC3.out x hx))).mono ?_
      rintro e w1 ⟨B3, d3, rfl, hd, _, hb⟩
      have HL3 := Lib.hid (new_sl hd)
      have HBT1 := Lib.hid ((hb.block _ (lt_of_block HBT0.out)).trans HBT0.out)
      have HBN1 := Lib.hid ((hb.block _ (lt_of_block HBN0.out)).trans HBN0.out)
      have HBS1 := Lib.hid ((hb.block _ (lt_of_block HBS0.out)).trans HBS0.out)
      have HBR1 := Lib.hid ((hb.block _ (lt_of_block HBR0.out)).trans HBR0.out)
      have HB1 := Lib.hid (HB0.out.trans (hb.mono HB0.out.size))
      have HW1 := Lib.hid (Nat.le_trans HW0.out hb.size)
      have HC1 := Lib.hid (below_none hb)
      clear hd hb
      rw [List.length_map]
      go_wp2_with fail
      refine hK _ _ trivial ?_
      clear hK K
      apply wpT_get rfl
      · go_simp
      · intro wS hS
        go_simp
        try rfl
      intro K hK
      go_simp
      refine hK _ ?_
      clear hK K
      refine wpT_one rfl (fun K hK => ?_)
      go_wp2_with fail
      refine (eachTy_any w1 t.res A4 c4 (Q4.out.sub (Below.sub HB1.out)) NL4.out 52 #[.pointer (some ⟨w.heap.size + 1, 0, none⟩), .pointer (some ⟨w.heap.size + 1 + 1, 0, none⟩)] (putTy names ts) enters_put1 (fun x hx => put1_any w1 _ _ (by have := HSZ.out; have := HW1.out; omega) (by have := HSZ.out; have := HW1.out; omega) ((cell_at HBN1.out 0).trans rfl) ((cell_at HBS1.out 0).trans rfl) (HNM.out.sub (Below.sub HB1.out)) (HTS.out.sub (Below.sub HB1.out)) x (OC4.out x hx))).mono ?_
      rintro e w2 ⟨B4, d4, rfl, hd, _, hb⟩
      have HL4 := Lib.hid (new_sl hd)
      have HBT2 := Lib.hid ((hb.block _ (lt_of_block HBT1.out)).trans HBT1.out)
      have HBN2 := Lib.hid ((hb.block _ (lt_of_block HBN1.out)).trans HBN1.out)
      have HBS2 := Lib.hid ((hb.block _ (lt_of_block HBS1.out)).trans HBS1.out)
      have HBR2 := Lib.hid ((hb.block _ (lt_of_block HBR1.out)).trans HBR1.out)
      have HB2 := Lib.hid (HB1.out.trans (hb.mono HB1.out.size))
      have HW2 := Lib.hid (Nat.le_trans HW1.out hb.size)
      have HC2 := Lib.hid (below_none hb)
      clear hd hb
      rw [List.length_map]
      go_wp2_with fail
      refine hK _ _ trivial ?_
      clear hK K
      have HT3 := Lib.hid (show (w2.setCell ⟨w.heap.size, 3, none⟩ (.slice B3 t.args.length d3)).heap[w.heap.size]? = some (.cells #[.int .i64 t.kind, .string t.pkg, .string t.name, .slice B3 t.args.length d3, .slice A4 t.res.length c4] 26 (0, 0)) from set_at HBT2.out 3 (.slice B3 t.args.length d3))
      have HT4 := Lib.hid (show ((w2.setCell ⟨w.heap.size, 3, none⟩ (.slice B3 t.args.length d3)).setCell ⟨w.heap.size, 4, none⟩ (.slice B4 t.res.length d4)).heap[w.heap.size]? = some (.cells #[.int .i64 t.kind, .string t.pkg, .string t.name, .slice B3 t.args.length d3, .slice B4 t.res.length d4] 26 (0, 0)) from set_at HT3.out 4 (.slice B4 t.res.length d4))
      have HR4 := Lib.hid (show ((w2.setCell ⟨w.heap.size, 3, none⟩ (.slice B3 t.args.length d3)).setCell ⟨w.heap.size, 4, none⟩ (.slice B4 t.res.length d4)).heap[w.heap.size + 1 + 1 + 1]? = some (.cells #[.int .i64 0, .string ⟨#[]⟩, .string ⟨#[]⟩, .slice none 0 0, .slice none 0 0] 26 (0, 0)) from set_old (set_old HBR2.out (p := ⟨w.heap.size, 3, none⟩) (by simp; omega) _) (p := ⟨w.heap.size, 4, none⟩) (by simp; omega) _)
      have u3 : w2.cell? ⟨w.heap.size, 3, none⟩ = some (.slice A3 t.args.length c3) := (cell_at HBT2.out 3).trans rfl
      have v3 : w2.frozen? ⟨w.heap.size, 3, none⟩ = false := free_at HBT2.out 3
      refine wpT_one rfl (fun K hK => ?_)
      go_wp2_with fail
      clear u3 v3
      refine hK _ _ trivial ?_
      clear hK K
      apply wpT_get rfl
      · go_simp
      · intro wS hS
        go_simp
        try rfl
      intro K hK
      go_simp
      refine hK _ ?_
      clear hK K
      have u4 : (w2.setCell ⟨w.heap.size, 3, none⟩ (.slice B3 t.args.length d3)).cell? ⟨w.heap.size, 4, none⟩ = some (.slice A4 t.res.length c4) := (cell_at HT3.out 4).trans rfl
      have v4 : (w2.setCell ⟨w.heap.size, 3, none⟩ (.slice B3 t.args.length d3)).frozen? ⟨w.heap.size, 4, none⟩ = false := free_at HT3.out 4
      refine wpT_one rfl (fun K hK => ?_)
      go_wp2_with fail
      clear u4 v4
      refine hK _ _ trivial ?_
      clear hK K
      refine wpT_doneN ?_
      have t0_ : ((w2.setCell ⟨w.heap.size, 3, none⟩ (.slice B3 t.args.length d3)).setCell ⟨w.heap.size, 4, none⟩ (.slice B4 t.res.length d4)).cell? ⟨w.heap.size, 0, none⟩ = some (.int .i64 t.kind) := (cell_at HT4.out 0).trans rfl
      have r0_ : ((w2.setCell ⟨w.heap.size, 3, none⟩ (.slice B3 t.args.length d3)).setCell ⟨w.heap.size, 4, none⟩ (.slice B4 t.res.length d4)).cell? ⟨w.heap.size + 1 + 1 + 1, 0, none⟩ = some (.int .i64 0) := (cell_at HR4.out 0).trans rfl
      have s0_ : ((w2.setCell ⟨w.heap.size, 3, none⟩ (.slice B3 t.args.length d3)).setCell ⟨w.heap.size, 4, none⟩ (.slice B4 t.res.length d4)).frozen? ⟨w.heap.size + 1 + 1 + 1, 0, none⟩ = false := free_at HR4.out 0
      have t1_ : ((w2.setCell ⟨w.heap.size, 3, none⟩ (.slice B3 t.args.length d3)).setCell ⟨w.heap.size, 4, none⟩ (.slice B4 t.res.length d4)).cell? ⟨w.heap.size, 1, none⟩ = some (.string t.pkg) := (cell_at HT4.out 1).trans rfl
      have r1_ : ((w2.setCell ⟨w.heap.size, 3, none⟩ (.slice B3 t.args.length d3)).setCell ⟨w.heap.size, 4, none⟩ (.slice B4 t.res.length d4)).cell? ⟨w.heap.size + 1 + 1 + 1, 1, none⟩ = some (.string ⟨#[]⟩) := (cell_at HR4.out 1).trans rfl
      have s1_ : ((w2.setCell ⟨w.heap.size, 3, none⟩ (.slice B3 t.args.length d3)).setCell ⟨w.heap.size, 4, none⟩ (.slice B4 t.res.length d4)).frozen? ⟨w.heap.size + 1 + 1 + 1, 1, none⟩ = false := free_at HR4.out 1
      have t2_ : ((w2.setCell ⟨w.heap.size, 3, none⟩ (.slice B3 t.args.length d3)).setCell ⟨w.heap.size, 4, none⟩ (.slice B4 t.res.length d4)).cell? ⟨w.heap.size, 2, none⟩ = some (.string t.name) := (cell_at HT4.out 2).trans rfl
      have r2_ : ((w2.setCell ⟨w.heap.size, 3, none⟩ (.slice B3 t.args.length d3)).setCell ⟨w.heap.size, 4, none⟩ (.slice B4 t.res.length d4)).cell? ⟨w.heap.size + 1 + 1 + 1, 2, none⟩ = some (.string ⟨#[]⟩) := (cell_at HR4.out 2).trans rfl
      have s2_ : ((w2.setCell ⟨w.heap.size, 3, none⟩ (.slice B3 t.args.length d3)).setCell ⟨w.heap.size, 4, none⟩ (.slice B4 t.res.length d4)).frozen? ⟨w.heap.size + 1 + 1 + 1, 2, none⟩ = false := free_at HR4.out 2
      have t3_ : ((w2.setCell ⟨w.heap.size, 3, none⟩ (.slice B3 t.args.length d3)).setCell ⟨w.heap.size, 4, none⟩ (.slice B4 t.res.length d4)).cell? ⟨w.heap.size, 3, none⟩ = some (.slice B3 t.args.length d3) := (cell_at HT4.out 3).trans rfl
      have r3_ : ((w2.setCell ⟨w.heap.size, 3, none⟩ (.slice B3 t.args.length d3)).setCell ⟨w.heap.size, 4, none⟩ (.slice B4 t.res.length d4)).cell? ⟨w.heap.size + 1 + 1 + 1, 3, none⟩ = some (.slice none 0 0) := (cell_at HR4.out 3).trans rfl
      have s3_ : ((w2.setCell ⟨w.heap.size, 3, none⟩ (.slice B3 t.args.length d3)).setCell ⟨w.heap.size, 4, none⟩ (.slice B4 t.res.length d4)).frozen? ⟨w.heap.size + 1 + 1 + 1, 3, none⟩ = false := free_at HR4.out 3
      have t4_ : ((w2.setCell ⟨w.heap.size, 3, none⟩ (.slice B3 t.args.length d3)).setCell ⟨w.heap.size, 4, none⟩ (.slice B4 t.res.length d4)).cell? ⟨w.heap.size, 4, none⟩ = some (.slice B4 t.res.length d4) := (cell_at HT4.out 4).trans rfl
      have r4_ : ((w2.setCell ⟨w.heap.size, 3, none⟩ (.slice B3 t.args.length d3)).setCell ⟨w.heap.size, 4, none⟩ (.slice B4 t.res.length d4)).cell? ⟨w.heap.size + 1 + 1 + 1, 4, none⟩ = some (.slice none 0 0) := (cell_at HR4.out 4).trans rfl
      have s4_ : ((w2.setCell ⟨w.heap.size, 3, none⟩ (.slice B3 t.args.length d3)).setCell ⟨w.heap.size, 4, none⟩ (.slice B4 t.res.length d4)).frozen? ⟨w.heap.size + 1 + 1 + 1, 4, none⟩ = false := free_at HR4.out 4
      have h0_ : (((w2.setCell ⟨w.heap.size, 3, none⟩ (.slice B3 t.args.length d3)).setCell ⟨w.heap.size, 4, none⟩ (.slice B4 t.res.length d4)).setCell ⟨w.heap.size + 1 + 1 + 1, 0, none⟩ (.int .i64 t.kind)).heap[w.heap.size + 1 + 1 + 1]? = some (.cells #[.int .i64 t.kind, .string ⟨#[]⟩, .string ⟨#[]⟩, .slice none 0 0, .slice none 0 0] 26 (0, 0)) := set_at HR4.out 0 (.int .i64 t.kind)
      have h1_ : ((((w2.setCell ⟨w.heap.size, 3, none⟩ (.slice B3 t.args.length d3)).setCell ⟨w.heap.size, 4, none⟩ (.slice B4 t.res.length d4)).setCell ⟨w.heap.size + 1 + 1 + 1, 0, none⟩ (.int .i64 t.kind)).setCell ⟨w.heap.size + 1 + 1 + 1, 1, none⟩ (.string t.pkg)).heap[w.heap.size + 1 + 1 + 1]? = some (.cells #[.int .i64 t.kind, .string t.pkg, .string ⟨#[]⟩, .slice none 0 0, .slice none 0 0] 26 (0, 0)) := set_at h0_ 1 (.string t.pkg)
      have h2_ : (((((w2.setCell ⟨w.heap.size, 3, none⟩ (.slice B3 t.args.length d3)).setCell ⟨w.heap.size, 4, none⟩ (.slice B4 t.res.length d4)).setCell ⟨w.heap.size + 1 + 1 + 1, 0, none⟩ (.int .i64 t.kind)).setCell ⟨w.heap.size + 1 + 1 + 1, 1, none⟩ (.string t.pkg)).setCell ⟨w.heap.size + 1 + 1 + 1, 2, none⟩ (.string t.name)).heap[w.heap.size + 1 + 1 + 1]? = some (.cells #[.int .i64 t.kind, .string t.pkg, .string t.name, .slice none 0 0, .slice none 0 0] 26 (0, 0)) := set_at h1_ 2 (.string t.name)
      have h3_ : ((((((w2.setCell ⟨w.heap.size, 3, none⟩ (.slice B3 t.args.length d3)).setCell ⟨w.heap.size, 4, none⟩ (.slice B4 t.res.length d4)).setCell ⟨w.heap.size + 1 + 1 + 1, 0, none⟩ (.int .i64 t.kind)).setCell ⟨w.heap.size + 1 + 1 + 1, 1, none⟩ (.string t.pkg)).setCell ⟨w.heap.size + 1 + 1 + 1, 2, none⟩ (.string t.name)).setCell ⟨w.heap.size + 1 + 1 + 1, 3, none⟩ (.slice B3 t.args.length d3)).heap[w.heap.size + 1 + 1 + 1]? = some (.cells #[.int .i64 t.kind, .string t.pkg, .string t.name, .slice B3 t.args.length d3, .slice none 0 0] 26 (0, 0)) := set_at h2_ 3 (.slice B3 t.args.length d3)
      have h4_ : (((((((w2.setCell ⟨w.heap.size, 3, none⟩ (.slice B3 t.args.length d3)).setCell ⟨w.heap.size, 4, none⟩ (.slice B4 t.res.length d4)).setCell ⟨w.heap.size + 1 + 1 + 1, 0, none⟩ (.int .i64 t.kind)).setCell ⟨w.heap.size + 1 + 1 + 1, 1, none⟩ (.string t.pkg)).setCell ⟨w.heap.size + 1 + 1 + 1, 2, none⟩ (.string t.name)).setCell ⟨w.heap.size + 1 + 1 + 1, 3, none⟩ (.slice B3 t.args.length d3)).setCell ⟨w.heap.size + 1 + 1 + 1, 4, none⟩ (.slice B4 t.res.length d4)).heap[w.heap.size + 1 + 1 + 1]? = some (.cells #[.int .i64 t.kind, .string t.pkg, .string t.name, .slice B3 t.args.length d3, .slice B4 t.res.length d4] 26 (0, 0)) := set_at h3_ 4 (.slice B4 t.res.length d4)
      have hset : Chg (fun k => k = w.heap.size ∨ k = w.heap.size + 1 + 1 + 1) w2 (((((((w2.setCell ⟨w.heap.size, 3, none⟩ (.slice B3 t.args.length d3)).setCell ⟨w.heap.size, 4, none⟩ (.slice B4 t.res.length d4)).setCell ⟨w.heap.size + 1 + 1 + 1, 0, none⟩ (.int .i64 t.kind)).setCell ⟨w.heap.size + 1 + 1 + 1, 1, none⟩ (.string t.pkg)).setCell ⟨w.heap.size + 1 + 1 + 1, 2, none⟩ (.string t.name)).setCell ⟨w.heap.size + 1 + 1 + 1, 3, none⟩ (.slice B3 t.args.length d3)).setCell ⟨w.heap.size + 1 + 1 + 1, 4, none⟩ (.slice B4 t.res.length d4)) := ((((((((Chg.refl (fun k => k = w.heap.size ∨ k = w.heap.size + 1 + 1 + 1) w2).setCell (p := ⟨w.heap.size, 3, none⟩) (fun _ => .inl rfl) (.slice B3 t.args.length d3)).setCell (p := ⟨w.heap.size, 4, none⟩) (fun _ => .inl rfl) (.slice B4 t.res.length d4)).setCell (p := ⟨w.heap.size + 1 + 1 + 1, 0, none⟩) (fun _ => .inr rfl) (.int .i64 t.kind)).setCell (p := ⟨w.heap.size + 1 + 1 + 1, 1, none⟩) (fun _ => .inr rfl) (.string t.pkg)).setCell (p := ⟨w.heap.size + 1 + 1 + 1, 2, none⟩) (fun _ => .inr rfl) (.string t.name)).setCell (p := ⟨w.heap.size + 1 + 1 + 1, 3, none⟩) (fun _ => .inr rfl) (.slice B3 t.args.length d3)).setCell (p := ⟨w.heap.size + 1 + 1 + 1, 4, none⟩) (fun _ => .inr rfl) (.slice B4 t.res.length d4))
      have HSET := Lib.hid hset
      have hd : ∀ (i : Nat) (v : Value), ([.int .i64 t.kind, .string t.pkg, .string t.name, .slice B3 t.args.length d3, .slice B4 t.res.length d4] : List Value)[i]? = some v → (((((((w2.setCell ⟨w.heap.size, 3, none⟩ (.slice B3 t.args.length d3)).setCell ⟨w.heap.size, 4, none⟩ (.slice B4 t.res.length d4)).setCell ⟨w.heap.size + 1 + 1 + 1, 0, none⟩ (.int .i64 t.kind)).setCell ⟨w.heap.size + 1 + 1 + 1, 1, none⟩ (.string t.pkg)).setCell ⟨w.heap.size + 1 + 1 + 1, 2, none⟩ (.string t.name)).setCell ⟨w.heap.size + 1 + 1 + 1, 3, none⟩ (.slice B3 t.args.length d3)).setCell ⟨w.heap.size + 1 + 1 + 1, 4, none⟩ (.slice B4 t.res.length d4)).cell? ⟨w.heap.size + 1 + 1 + 1, i, none⟩ = some v := fun i v q => by rw [cell_at h4_]; simpa using q
      have HD := Lib.hid hd
      have HF := Lib.hid (Below.chg HB2.out HSET.out HB2.out.size (fun i q => by omega))
      have HL3 := Lib.hid ((HL3.out.later HC2.out (fun k q => q.elim)).later HSET.out (fun k q => by have := HSZ.out; have := HW0.out; omega))
      have HL4 := Lib.hid (HL4.out.later HSET.out (fun k q => by have := HSZ.out; have := HW1.out; omega))
      clear hd hset h0_ h1_ h2_ h3_ h4_
      go_wp2_with fail
      refine bodyPost_ret (v := .agg #[.int .i64 t.kind, .string t.pkg, .string t.name, .slice B3 t.args.length d3, .slice B4 t.res.length d4]) (by have d0 := HD.out 0 _ rfl; have d1 := HD.out 1 _ rfl; have d2 := HD.out 2 _ rfl; have d3_ := HD.out 3 _ rfl; have d4_ := HD.out 4 _ rfl; simp [results, Try.results26, go_sem, d0, d1, d2, d3_, d4_]) rfl ?_
      refine ⟨_, rfl, ?_, HF.out⟩
      rw [HEQ.out]
      have hl3 := HL3.out.low (n' := w.heap.size) (by have := HSZ.out; have := HW0.out; omega)
      have hl4 := HL4.out.low (n' := w.heap.size) (by have := HSZ.out; have := HW1.out; omega)
      rw [List.length_map] at hl3 hl4
      have := Ty.shut (w := NewW w.heap.size none _) (t := .mk t.kind t.pkg t.name (t.args.map (putTy names ts)) (t.res.map (putTy names ts))) Q0.out Q1.out Q2.out (by simp only [Ty.args, List.length_map]; exact hl3) (by simp only [Ty.res, List.length_map]; exact hl4)
      simpa only [Ty.args, Ty.res, Ty.kind, Ty.pkg, Ty.name, List.length_map] using this
theorem put_size {names : List ByteArray} {ts : List Ty} (hs : ∀ x ∈ ts, x.sz ≤ 1000000) : ∀ (n : Nat) (t : Ty), SizeOf.sizeOf t < n → t.sz ≤ 1000000 → PutC names ts t
  | 0, _, h, _ => absurd h (Nat.not_lt_zero _)
  | n + 1, .mk k p s xs ys, h, hz => by
    simp only [Ty.mk.sizeOf_spec] at h
    have hz' := Ty.sz_eq (.mk k p s xs ys)
    simp only [Ty.args, Ty.res] at hz'
    cases hp : putB names ts (Ty.mk k p s xs ys).kind (Ty.mk k p s xs ys).name with
    | true => exact put_hit _ hp hs
    | false =>
      exact put_miss _ hp (by have := Ty.len_sz xs; simp only [Ty.args]; omega) (by have := Ty.len_sz ys; simp only [Ty.res]; omega)
        (fun x hx => put_size hs n x (by have := List.sizeOf_lt_of_mem hx; simp only [Ty.args] at this; omega) (by have := Ty.mem_sz hx; simp only [Ty.args] at this; omega))
        (fun x hx => put_size hs n x (by have := List.sizeOf_lt_of_mem hx; simp only [Ty.res] at this; omega) (by have := Ty.mem_sz hx; simp only [Ty.res] at this; omega))
theorem putC {names : List ByteArray} {ts : List Ty} (t : Ty) (hz : t.sz ≤ 1000000) (hs : ∀ x ∈ ts, x.sz ≤ 1000000) : PutC names ts t := put_size hs _ t (Nat.lt_succ_self _) hz
end Go.Proofs.Ytiecbgclkdlpkaa
