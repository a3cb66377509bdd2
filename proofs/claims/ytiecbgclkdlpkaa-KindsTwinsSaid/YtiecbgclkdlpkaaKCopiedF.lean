/-
  copied, in free memory.
-/
import Derived.Test.YtiecbgclkdlpkaaKEachF
import Derived.Test.YtiecbgclkdlpkaaKCopied
namespace Go.Proofs.Ytiecbgclkdlpkaa.fr
open Go.RowKit
set_option linter.unusedVariables false
set_option linter.unusedSimpArgs false
attribute [local irreducible] wpStill wpOrd wpT

theorem new_sl {n : Nat} {w : World} {xs : List Ty} {A : Option Addr} {c : Nat} (h : DV (NewW n none w) (.lst 5 (xs.map Ty.d)) (.slice A xs.length c)) : SL (NewW n none w) 5 (Ty.ds xs) xs.length A c := by
  obtain ⟨A', c', hv, q⟩ := SL.of h
  rw [List.length_map] at hv q
  injection hv with e1 _ e3
  subst e1 e3
  rw [Ty.ds_mapk]; exact q
theorem _root_.Go.Proofs.Ytiecbgclkdlpkaa.SL.laterF {w w' : World} {S : Nat → Prop} (hc : Chg S w w') {n : Nat} (hS : ∀ k, S k → k < n) {sz : Nat} {l : List (List D)} {m : Nat} {A : Option Addr} {c : Nat} (q : SL (NewW n none w) sz l m A c) : SL (NewW n none w') sz l m A c :=
  q.sub (new_chg hc (fun k q _ => .inl (hS k q)) (fun k q => by cases q))
theorem _root_.Go.Proofs.Ytiecbgclkdlpkaa.SL.lowF {w : World} {n n' : Nat} (h : n' ≤ n) {sz : Nat} {l : List (List D)} {m : Nat} {A : Option Addr} {c : Nat} (q : SL (NewW n none w) sz l m A c) : SL (NewW n' none w) sz l m A c :=
  q.sub (new_mono h _ _)
def CopTy (t : Ty) : Prop := ∀ (w : World) (vs : List Value), Vals w t.d vs → Calls Try.prog 48 #[.agg vs.toArray] w (NewV w Ty.d t)

set_option maxRecDepth 100000 in
set_option maxHeartbeats 6400000 in
theorem copied_any (t : Ty) (h1 : t.args.length ≤ 1000000) (h2 : t.res.length ≤ 1000000) (o_args : ∀ x ∈ t.args, CopTy x) (o_res : ∀ x ∈ t.res, CopTy x) : CopTy t := by
  intro w vs hv
  obtain ⟨A3, c3, A4, c4, rfl, q0, q1, q2, q3, q4⟩ := Ty.opn hv
  have HBT0 := Lib.hid (show ((w.alloc (.cells #[.int .i64 t.kind, .string t.pkg, .string t.name, .slice A3 t.args.length c3, .slice A4 t.res.length c4] 26)).alloc (.cells #[.int .i64 0, .string ⟨#[]⟩, .string ⟨#[]⟩, .slice none 0 0, .slice none 0 0] 26)).drew.heap[w.heap.size]? = some (.cells #[.int .i64 t.kind, .string t.pkg, .string t.name, .slice A3 t.args.length c3, .slice A4 t.res.length c4] 26 (0, 0)) from alloc_old (alloc_at w _) _)
  have hbr := alloc_at (w.alloc (.cells #[.int .i64 t.kind, .string t.pkg, .string t.name, .slice A3 t.args.length c3, .slice A4 t.res.length c4] 26)) (.cells #[.int .i64 0, .string ⟨#[]⟩, .string ⟨#[]⟩, .slice none 0 0, .slice none 0 0] 26)
  rw [World.size_alloc] at hbr
  have HBR0 := Lib.hid (show ((w.alloc (.cells #[.int .i64 t.kind, .string t.pkg, .string t.name, .slice A3 t.args.length c3, .slice A4 t.res.length c4] 26)).alloc (.cells #[.int .i64 0, .string ⟨#[]⟩, .string ⟨#[]⟩, .slice none 0 0, .slice none 0 0] 26)).drew.heap[w.heap.size + 1]? = some (.cells #[.int .i64 0, .string ⟨#[]⟩, .string ⟨#[]⟩, .slice none 0 0, .slice none 0 0] 26 (0, 0)) from hbr)
  have HSZ := Lib.hid (show ((w.alloc (.cells #[.int .i64 t.kind, .string t.pkg, .string t.name, .slice A3 t.args.length c3, .slice A4 t.res.length c4] 26)).alloc (.cells #[.int .i64 0, .string ⟨#[]⟩, .string ⟨#[]⟩, .slice none 0 0, .slice none 0 0] 26)).heap.size = w.heap.size + 2 by simp)
  have HB0 := Lib.hid (show Below w.heap.size w ((w.alloc (.cells #[.int .i64 t.kind, .string t.pkg, .string t.name, .slice A3 t.args.length c3, .slice A4 t.res.length c4] 26)).alloc (.cells #[.int .i64 0, .string ⟨#[]⟩, .string ⟨#[]⟩, .slice none 0 0, .slice none 0 0] 26)).drew from (((Below.refl w.heap.size w).alloc (Nat.le_refl _) _).alloc (by simp) _).drew)
  have Q0 := Lib.hid q0; have Q1 := Lib.hid q1; have Q2 := Lib.hid q2; have Q3 := Lib.hid q3; have Q4 := Lib.hid q4
  have N3 := Lib.hid h1; have N4 := Lib.hid h2; have OC3 := Lib.hid o_args; have OC4 := Lib.hid o_res
  clear hv hbr q0 q1 q2 q3 q4 h1 h2 o_args o_res
  go_enter Try.func48, Try.ntmps48
  go_wp2_with fail
  refine wp_region_otN (fun _ => True) (.get 0 (.get 3 (.two 1 (.two 2 (.one 4 (.get 6 (.one 5 (.one 7 (.get 8 (.one 9 .done)))))) 4 (.one 2 (.get 6 (.one 5 (.one 7 (.get 8 (.one 9 .done))))))) 4 (.one 1 (.one 2 (.get 6 (.one 5 (.one 7 (.get 8 (.one 9 .done)))))))))) (by kernel_rfl) (by kernel_rfl) trivial ?_
  apply wpT_get rfl
  · go_simp
  · intro wS hS
    go_simp
    try rfl
  intro K hK
  go_simp
  refine hK _ ?_
  clear hK K
  apply wpT_get rfl
  · go_simp
  · intro wS hS
    go_simp
    try rfl
  intro K hK
  go_simp
  refine hK _ ?_
  clear hK K
  refine wpT_two rfl rfl (fun K hK => ?_) (fun K hK => ?_)
  case refine_1 =>
    have k3 : ((w.alloc (.cells #[.int .i64 t.kind, .string t.pkg, .string t.name, .slice A3 t.args.length c3, .slice A4 t.res.length c4] 26)).alloc (.cells #[.int .i64 0, .string ⟨#[]⟩, .string ⟨#[]⟩, .slice none 0 0, .slice none 0 0] 26)).drew.cell? ⟨w.heap.size, 3, none⟩ = some (.slice A3 t.args.length c3) := (cell_at HBT0.out 3).trans rfl
    go_wp2_with fail
    clear k3
    refine hK _ _ trivial ?_
    clear hK K
    refine wpT_two rfl rfl (fun K hK => ?_) (fun K hK => ?_)
    case refine_1 =>
      go_wp2_with fail
      refine (eachTy_any ((w.alloc (.cells #[.int .i64 t.kind, .string t.pkg, .string t.name, .slice A3 t.args.length c3, .slice A4 t.res.length c4] 26)).alloc (.cells #[.int .i64 0, .string ⟨#[]⟩, .string ⟨#[]⟩, .slice none 0 0, .slice none 0 0] 26)).drew t.args A3 c3 (Q3.out.sub (Below.sub HB0.out)) N3.out 48 #[] (fun x => x) enters_copied (fun x hx w' vs _ hv => OC3.out x hx w' vs hv)).mono ?_
      rw [List.map_id']
      rintro e w1 ⟨B3, d3, rfl, hd, _, hb⟩
      have HL3 := Lib.hid (new_sl hd)
      have HBT1 := Lib.hid ((hb.block _ (lt_of_block HBT0.out)).trans HBT0.out)
      have HBR1 := Lib.hid ((hb.block _ (lt_of_block HBR0.out)).trans HBR0.out)
      have HB1 := Lib.hid (HB0.out.trans (hb.mono HB0.out.size))
      have HC1 := Lib.hid (below_none hb)
      clear hd hb
      go_wp2_with fail
      refine hK _ _ trivial ?_
      clear hK K
      refine wpT_one rfl (fun K hK => ?_)
      have k4 : w1.cell? ⟨w.heap.size, 4, none⟩ = some (.slice A4 t.res.length c4) := (cell_at HBT1.out 4).trans rfl
      go_wp2_with fail
      clear k4
      refine hK _ _ trivial ?_
      clear hK K
      apply wpT_get rfl
      · go_simp
      · intro wS hS
        go_simp
        try rfl
      intro K hK
      go_simp
      refine hK _ ?_
      clear hK K
      refine wpT_one rfl (fun K hK => ?_)
      go_wp2_with fail
      refine (eachTy_any w1 t.res A4 c4 (Q4.out.sub (Below.sub HB1.out)) N4.out 48 #[] (fun x => x) enters_copied (fun x hx w' vs _ hv => OC4.out x hx w' vs hv)).mono ?_
      rw [List.map_id']
      rintro e w2 ⟨B4, d4, rfl, hd, _, hb⟩
      have HL4 := Lib.hid (new_sl hd)
      have HBT2 := Lib.hid ((hb.block _ (lt_of_block HBT1.out)).trans HBT1.out)
      have HBR2 := Lib.hid ((hb.block _ (lt_of_block HBR1.out)).trans HBR1.out)
      have HB2 := Lib.hid (HB1.out.trans (hb.mono HB1.out.size))
      have HC2 := Lib.hid (below_none hb)
      clear hd hb
      go_wp2_with fail
      refine hK _ _ trivial ?_
      clear hK K
      have HT3 := Lib.hid (show (w2.setCell ⟨w.heap.size, 3, none⟩ (.slice B3 t.args.length d3)).heap[w.heap.size]? = some (.cells #[.int .i64 t.kind, .string t.pkg, .string t.name, .slice B3 t.args.length d3, .slice A4 t.res.length c4] 26 (0, 0)) from set_at HBT2.out 3 (.slice B3 t.args.length d3))
      have HT4 := Lib.hid (show ((w2.setCell ⟨w.heap.size, 3, none⟩ (.slice B3 t.args.length d3)).setCell ⟨w.heap.size, 4, none⟩ (.slice B4 t.res.length d4)).heap[w.heap.size]? = some (.cells #[.int .i64 t.kind, .string t.pkg, .string t.name, .slice B3 t.args.length d3, .slice B4 t.res.length d4] 26 (0, 0)) from set_at HT3.out 4 (.slice B4 t.res.length d4))
      have HR4 := Lib.hid (show ((w2.setCell ⟨w.heap.size, 3, none⟩ (.slice B3 t.args.length d3)).setCell ⟨w.heap.size, 4, none⟩ (.slice B4 t.res.length d4)).heap[w.heap.size + 1]? = some (.cells #[.int .i64 0, .string ⟨#[]⟩, .string ⟨#[]⟩, .slice none 0 0, .slice none 0 0] 26 (0, 0)) from set_old (set_old HBR2.out (p := ⟨w.heap.size, 3, none⟩) (by simp) _) (p := ⟨w.heap.size, 4, none⟩) (by simp) _)
      have u3 : w2.cell? ⟨w.heap.size, 3, none⟩ = some (.slice A3 t.args.length c3) := (cell_at HBT2.out 3).trans rfl
      have v3 : w2.frozen? ⟨w.heap.size, 3, none⟩ = false := free_at HBT2.out 3
      refine wpT_one rfl (fun K hK => ?_)
      go_wp2_with fail
      clear u3 v3
      refine hK _ _ trivial ?_
      clear hK K
      apply wpT_get rfl
      · go_simp
      · intro wS hS
        go_simp
        try rfl
      intro K hK
      go_simp
      refine hK _ ?_
      clear hK K
      have u4 : (w2.setCell ⟨w.heap.size, 3, none⟩ (.slice B3 t.args.length d3)).cell? ⟨w.heap.size, 4, none⟩ = some (.slice A4 t.res.length c4) := (cell_at HT3.out 4).trans rfl
      have v4 : (w2.setCell ⟨w.heap.size, 3, none⟩ (.slice B3 t.args.length d3)).frozen? ⟨w.heap.size, 4, none⟩ = false := free_at HT3.out 4
      refine wpT_one rfl (fun K hK => ?_)
      go_wp2_with fail
      clear u4 v4
      refine hK _ _ trivial ?_
      clear hK K
      refine wpT_doneN ?_
      have t0_ : ((w2.setCell ⟨w.heap.size, 3, none⟩ (.slice B3 t.args.length d3)).setCell ⟨w.heap.size, 4, none⟩ (.slice B4 t.res.length d4)).cell? ⟨w.heap.size, 0, none⟩ = some (.int .i64 t.kind) := (cell_at HT4.out 0).trans rfl
      have r0_ : ((w2.setCell ⟨w.heap.size, 3, none⟩ (.slice B3 t.args.length d3)).setCell ⟨w.heap.size, 4, none⟩ (.slice B4 t.res.length d4)).cell? ⟨w.heap.size + 1, 0, none⟩ = some (.int .i64 0) := (cell_at HR4.out 0).trans rfl
      have s0_ : ((w2.setCell ⟨w.heap.size, 3, none⟩ (.slice B3 t.args.length d3)).setCell ⟨w.heap.size, 4, none⟩ (.slice B4 t.res.length d4)).frozen? ⟨w.heap.size + 1, 0, none⟩ = false := free_at HR4.out 0
      have t1_ : ((w2.setCell ⟨w.heap.size, 3, none⟩ (.slice B3 t.args.length d3)).setCell ⟨w.heap.size, 4, none⟩ (.slice B4 t.res.length d4)).cell? ⟨w.heap.size, 1, none⟩ = some (.string t.pkg) := (cell_at HT4.out 1).trans rfl
      have r1_ : ((w2.setCell ⟨w.heap.size, 3, none⟩ (.slice B3 t.args.length d3)).setCell ⟨w.heap.size, 4, none⟩ (.slice B4 t.res.length d4)).cell? ⟨w.heap.size + 1, 1, none⟩ = some (.string ⟨#[]⟩) := (cell_at HR4.out 1).trans rfl
      have s1_ : ((w2.setCell ⟨w.heap.size, 3, none⟩ (.slice B3 t.args.length d3)).setCell ⟨w.heap.size, 4, none⟩ (.slice B4 t.res.length d4)).frozen? ⟨w.heap.size + 1, 1, none⟩ = false := free_at HR4.out 1
      have t2_ : ((w2.setCell ⟨w.heap.size, 3, none⟩ (.slice B3 t.args.length d3)).setCell ⟨w.heap.size, 4, none⟩ (.slice B4 t.res.length d4)).cell? ⟨w.heap.size, 2, none⟩ = some (.string t.name) := (cell_at HT4.out 2).trans rfl
      have r2_ : ((w2.setCell ⟨w.heap.size, 3, none⟩ (.slice B3 t.args.length d3)).setCell ⟨w.heap.size, 4, none⟩ (.slice B4 t.res.length d4)).cell? ⟨w.heap.size + 1, 2, none⟩ = some (.string ⟨#[]⟩) := (cell_at HR4.out 2).trans rfl
      have s2_ : ((w2.setCell ⟨w.heap.size, 3, none⟩ (.slice B3 t.args.length d3)).setCell ⟨w.heap.size, 4, none⟩ (.slice B4 t.res.length d4)).frozen? ⟨w.heap.size + 1, 2, none⟩ = false := free_at HR4.out 2
      have t3_ : ((w2.setCell ⟨w.heap.size, 3, none⟩ (.slice B3 t.args.length d3)).setCell ⟨w.heap.size, 4, none⟩ (.slice B4 t.res.length d4)).cell? ⟨w.heap.size, 3, none⟩ = some (.slice B3 t.args.length d3) := (cell_at HT4.out 3).trans rfl
      have r3_ : ((w2.setCell ⟨w.heap.size, 3, none⟩ (.slice B3 t.args.length d3)).setCell ⟨w.heap.size, 4, none⟩ (.slice B4 t.res.length d4)).cell? ⟨w.heap.size + 1, 3, none⟩ = some (.slice none 0 0) := (cell_at HR4.out 3).trans rfl
      have s3_ : ((w2.setCell ⟨w.heap.size, 3, none⟩ (.slice B3 t.args.length d3)).setCell ⟨w.heap.size, 4, none⟩ (.slice B4 t.res.length d4)).frozen? ⟨w.heap.size + 1, 3, none⟩ = false := free_at HR4.out 3
      have t4_ : ((w2.setCell ⟨w.heap.size, 3, none⟩ (.slice B3 t.args.length d3)).setCell ⟨w.heap.size, 4, none⟩ (.slice B4 t.res.length d4)).cell? ⟨w.heap.size, 4, none⟩ = some (.slice B4 t.res.length d4) := (cell_at HT4.out 4).trans rfl
      have r4_ : ((w2.setCell ⟨w.heap.size, 3, none⟩ (.slice B3 t.args.length d3)).setCell ⟨w.heap.size, 4, none⟩ (.slice B4 t.res.length d4)).cell? ⟨w.heap.size + 1, 4, none⟩ = some (.slice none 0 0) := (cell_at HR4.out 4).trans rfl
      have s4_ : ((w2.setCell ⟨w.heap.size, 3, none⟩ (.slice B3 t.args.length d3)).setCell ⟨w.heap.size, 4, none⟩ (.slice B4 t.res.length d4)).frozen? ⟨w.heap.size + 1, 4, none⟩ = false := free_at HR4.out 4
      have h0_ : (((w2.setCell ⟨w.heap.size, 3, none⟩ (.slice B3 t.args.length d3)).setCell ⟨w.heap.size, 4, none⟩ (.slice B4 t.res.length d4)).setCell ⟨w.heap.size + 1, 0, none⟩ (.int .i64 t.kind)).heap[w.heap.size + 1]? = some (.cells #[.int .i64 t.kind, .string ⟨#[]⟩, .string ⟨#[]⟩, .slice none 0 0, .slice none 0 0] 26 (0, 0)) := set_at HR4.out 0 (.int .i64 t.kind)
      have h1_ : ((((w2.setCell ⟨w.heap.size, 3, none⟩ (.slice B3 t.args.length d3)).setCell ⟨w.heap.size, 4, none⟩ (.slice B4 t.res.length d4)).setCell ⟨w.heap.size + 1, 0, none⟩ (.int .i64 t.kind)).setCell ⟨w.heap.size + 1, 1, none⟩ (.string t.pkg)).heap[w.heap.size + 1]? = some (.cells #[.int .i64 t.kind, .string t.pkg, .string ⟨#[]⟩, .slice none 0 0, .slice none 0 0] 26 (0, 0)) := set_at h0_ 1 (.string t.pkg)
      have h2_ : (((((w2.setCell ⟨w.heap.size, 3, none⟩ (.slice B3 t.args.length d3)).setCell ⟨w.heap.size, 4, none⟩ (.slice B4 t.res.length d4)).setCell ⟨w.heap.size + 1, 0, none⟩ (.int .i64 t.kind)).setCell ⟨w.heap.size + 1, 1, none⟩ (.string t.pkg)).setCell ⟨w.heap.size + 1, 2, none⟩ (.string t.name)).heap[w.heap.size + 1]? = some (.cells #[.int .i64 t.kind, .string t.pkg, .string t.name, .slice none 0 0, .slice none 0 0] 26 (0, 0)) := set_at h1_ 2 (.string t.name)
      have h3_ : ((((((w2.setCell ⟨w.heap.size, 3, none⟩ (.slice B3 t.args.length d3)).setCell ⟨w.heap.size, 4, none⟩ (.slice B4 t.res.length d4)).setCell ⟨w.heap.size + 1, 0, none⟩ (.int .i64 t.kind)).setCell ⟨w.heap.size + 1, 1, none⟩ (.string t.pkg)).setCell ⟨w.heap.size + 1, 2, none⟩ (.string t.name)).setCell ⟨w.heap.size + 1, 3, none⟩ (.slice B3 t.args.length d3)).heap[w.heap.size + 1]? = some (.cells #[.int .i64 t.kind, .string t.pkg, .string t.name, .slice B3 t.args.length d3, .slice none 0 0] 26 (0, 0)) := set_at h2_ 3 (.slice B3 t.args.length d3)
      have h4_ : (((((((w2.setCell ⟨w.heap.size, 3, none⟩ (.slice B3 t.args.length d3)).setCell ⟨w.heap.size, 4, none⟩ (.slice B4 t.res.length d4)).setCell ⟨w.heap.size + 1, 0, none⟩ (.int .i64 t.kind)).setCell ⟨w.heap.size + 1, 1, none⟩ (.string t.pkg)).setCell ⟨w.heap.size + 1, 2, none⟩ (.string t.name)).setCell ⟨w.heap.size + 1, 3, none⟩ (.slice B3 t.args.length d3)).setCell ⟨w.heap.size + 1, 4, none⟩ (.slice B4 t.res.length d4)).heap[w.heap.size + 1]? = some (.cells #[.int .i64 t.kind, .string t.pkg, .string t.name, .slice B3 t.args.length d3, .slice B4 t.res.length d4] 26 (0, 0)) := set_at h3_ 4 (.slice B4 t.res.length d4)
      have hset : Chg (fun k => k = w.heap.size ∨ k = w.heap.size + 1) w2 (((((((w2.setCell ⟨w.heap.size, 3, none⟩ (.slice B3 t.args.length d3)).setCell ⟨w.heap.size, 4, none⟩ (.slice B4 t.res.length d4)).setCell ⟨w.heap.size + 1, 0, none⟩ (.int .i64 t.kind)).setCell ⟨w.heap.size + 1, 1, none⟩ (.string t.pkg)).setCell ⟨w.heap.size + 1, 2, none⟩ (.string t.name)).setCell ⟨w.heap.size + 1, 3, none⟩ (.slice B3 t.args.length d3)).setCell ⟨w.heap.size + 1, 4, none⟩ (.slice B4 t.res.length d4)) := ((((((((Chg.refl (fun k => k = w.heap.size ∨ k = w.heap.size + 1) w2).setCell (p := ⟨w.heap.size, 3, none⟩) (fun _ => .inl rfl) (.slice B3 t.args.length d3)).setCell (p := ⟨w.heap.size, 4, none⟩) (fun _ => .inl rfl) (.slice B4 t.res.length d4)).setCell (p := ⟨w.heap.size + 1, 0, none⟩) (fun _ => .inr rfl) (.int .i64 t.kind)).setCell (p := ⟨w.heap.size + 1, 1, none⟩) (fun _ => .inr rfl) (.string t.pkg)).setCell (p := ⟨w.heap.size + 1, 2, none⟩) (fun _ => .inr rfl) (.string t.name)).setCell (p := ⟨w.heap.size + 1, 3, none⟩) (fun _ => .inr rfl) (.slice B3 t.args.length d3)).setCell (p := ⟨w.heap.size + 1, 4, none⟩) (fun _ => .inr rfl) (.slice B4 t.res.length d4))
      have HSET := Lib.hid hset
      have hd : ∀ (i : Nat) (v : Value), ([.int .i64 t.kind, .string t.pkg, .string t.name, .slice B3 t.args.length d3, .slice B4 t.res.length d4] : List Value)[i]? = some v → (((((((w2.setCell ⟨w.heap.size, 3, none⟩ (.slice B3 t.args.length d3)).setCell ⟨w.heap.size, 4, none⟩ (.slice B4 t.res.length d4)).setCell ⟨w.heap.size + 1, 0, none⟩ (.int .i64 t.kind)).setCell ⟨w.heap.size + 1, 1, none⟩ (.string t.pkg)).setCell ⟨w.heap.size + 1, 2, none⟩ (.string t.name)).setCell ⟨w.heap.size + 1, 3, none⟩ (.slice B3 t.args.length d3)).setCell ⟨w.heap.size + 1, 4, none⟩ (.slice B4 t.res.length d4)).cell? ⟨w.heap.size + 1, i, none⟩ = some v := fun i v q => by rw [cell_at h4_]; simpa using q
      have HD := Lib.hid hd
      have HF := Lib.hid (Below.chg HB2.out HSET.out HB2.out.size (fun i q => by omega))
      have HL3 := Lib.hid ((HL3.out.laterF HC2.out (fun k q => q.elim)).laterF HSET.out (fun k q => by have := HSZ.out; rw [World.size_drew]; omega))
      have HL4 := Lib.hid (HL4.out.laterF HSET.out (fun k q => by have := HSZ.out; have := HC1.out.size; rw [World.size_drew] at this; omega))
      clear hd hset h0_ h1_ h2_ h3_ h4_
      go_wp2_with fail
      refine bodyPost_ret (v := .agg #[.int .i64 t.kind, .string t.pkg, .string t.name, .slice B3 t.args.length d3, .slice B4 t.res.length d4]) (by have d0 := HD.out 0 _ rfl; have d1 := HD.out 1 _ rfl; have d2 := HD.out 2 _ rfl; have d3_ := HD.out 3 _ rfl; have d4_ := HD.out 4 _ rfl; simp [results, Try.results48, go_sem, d0, d1, d2, d3_, d4_]) rfl ?_
      exact ⟨_, rfl, Ty.shut (w := NewW w.heap.size none _) (t := t) Q0.out Q1.out Q2.out (HL3.out.lowF (by have := HSZ.out; rw [World.size_drew]; omega)) (HL4.out.lowF (by have := HSZ.out; have := HC1.out.size; rw [World.size_drew] at this; omega)), HF.out⟩
    case refine_2 =>
      have k4 : ((w.alloc (.cells #[.int .i64 t.kind, .string t.pkg, .string t.name, .slice A3 t.args.length c3, .slice A4 t.res.length c4] 26)).alloc (.cells #[.int .i64 0, .string ⟨#[]⟩, .string ⟨#[]⟩, .slice none 0 0, .slice none 0 0] 26)).drew.cell? ⟨w.heap.size, 4, none⟩ = some (.slice A4 t.res.length c4) := (cell_at HBT0.out 4).trans rfl
      go_wp2_with fail
      clear k4
      refine hK _ _ trivial ?_
      clear hK K
      refine wpT_one rfl (fun K hK => ?_)
      go_wp2_with fail
      refine (eachTy_any ((w.alloc (.cells #[.int .i64 t.kind, .string t.pkg, .string t.name, .slice A3 t.args.length c3, .slice A4 t.res.length c4] 26)).alloc (.cells #[.int .i64 0, .string ⟨#[]⟩, .string ⟨#[]⟩, .slice none 0 0, .slice none 0 0] 26)).drew t.args A3 c3 (Q3.out.sub (Below.sub HB0.out)) N3.out 48 #[] (fun x => x) enters_copied (fun x hx w' vs _ hv => OC3.out x hx w' vs hv)).mono ?_
      rw [List.map_id']
      rintro e w1 ⟨B3, d3, rfl, hd, _, hb⟩
      have HL3 := Lib.hid (new_sl hd)
      have HBT1 := Lib.hid ((hb.block _ (lt_of_block HBT0.out)).trans HBT0.out)
      have HBR1 := Lib.hid ((hb.block _ (lt_of_block HBR0.out)).trans HBR0.out)
      have HB1 := Lib.hid (HB0.out.trans (hb.mono HB0.out.size))
      have HC1 := Lib.hid (below_none hb)
      clear hd hb
      go_wp2_with fail
      refine hK _ _ trivial ?_
      clear hK K
      apply wpT_get rfl
      · go_simp
      · intro wS hS
        go_simp
        try rfl
      intro K hK
      go_simp
      refine hK _ ?_
      clear hK K
      refine wpT_one rfl (fun K hK => ?_)
      go_wp2_with fail
      refine (eachTy_any w1 t.res A4 c4 (Q4.out.sub (Below.sub HB1.out)) N4.out 48 #[] (fun x => x) enters_copied (fun x hx w' vs _ hv => OC4.out x hx w' vs hv)).mono ?_
      rw [List.map_id']
      rintro e w2 ⟨B4, d4, rfl, hd, _, hb⟩
      have HL4 := Lib.hid (new_sl hd)
      have HBT2 := Lib.hid ((hb.block _ (lt_of_block HBT1.out)).trans HBT1.out)
      have HBR2 := Lib.hid ((hb.block _ (lt_of_block HBR1.out)).trans HBR1.out)
      have HB2 := Lib.hid (HB1.out.trans (hb.mono HB1.out.size))
      have HC2 := Lib.hid (below_none hb)
      clear hd hb
      go_wp2_with fail
      refine hK _ _ trivial ?_
      clear hK K
      have HT3 := Lib.hid (show (w2.setCell ⟨w.heap.size, 3, none⟩ (.slice B3 t.args.length d3)).heap[w.heap.size]? = some (.cells #[.int .i64 t.kind, .string t.pkg, .string t.name, .slice B3 t.args.length d3, .slice A4 t.res.length c4] 26 (0, 0)) from set_at HBT2.out 3 (.slice B3 t.args.length d3))
      have HT4 := Lib.hid (show ((w2.setCell ⟨w.heap.size, 3, none⟩ (.slice B3 t.args.length d3)).setCell ⟨w.heap.size, 4, none⟩ (.slice B4 t.res.length d4)).heap[w.heap.size]? = some (.cells #[.int .i64 t.kind, .string t.pkg, .string t.name, .slice B3 t.args.length d3, .slice B4 t.res.length d4] 26 (0, 0)) from set_at HT3.out 4 (.slice B4 t.res.length d4))
      have HR4 := Lib.hid (show ((w2.setCell ⟨w.heap.size, 3, none⟩ (.slice B3 t.args.length d3)).setCell ⟨w.heap.size, 4, none⟩ (.slice B4 t.res.length d4)).heap[w.heap.size + 1]? = some (.cells #[.int .i64 0, .string ⟨#[]⟩, .string ⟨#[]⟩, .slice none 0 0, .slice none 0 0] 26 (0, 0)) from set_old (set_old HBR2.out (p := ⟨w.heap.size, 3, none⟩) (by simp) _) (p := ⟨w.heap.size, 4, none⟩) (by simp) _)
      have u3 : w2.cell? ⟨w.heap.size, 3, none⟩ = some (.slice A3 t.args.length c3) := (cell_at HBT2.out 3).trans rfl
      have v3 : w2.frozen? ⟨w.heap.size, 3, none⟩ = false := free_at HBT2.out 3
      refine wpT_one rfl (fun K hK => ?_)
      go_wp2_with fail
      clear u3 v3
      refine hK _ _ trivial ?_
      clear hK K
      apply wpT_get rfl
      · go_simp
      · intro wS hS
        go_simp
        try rfl
      intro K hK
      go_simp
      refine hK _ ?_
      clear hK K
      have u4 : (w2.setCell ⟨w.heap.size, 3, none⟩ (.slice B3 t.args.length d3)).cell? ⟨w.heap.size, 4, none⟩ = some (.slice A4 t.res.length c4) := (cell_at HT3.out 4).trans rfl
      have v4 : (w2.setCell ⟨w.heap.size, 3, none⟩ (.slice B3 t.args.length d3)).frozen? ⟨w.heap.size, 4, none⟩ = false := free_at HT3.out 4
      refine wpT_one rfl (fun K hK => ?_)
      go_wp2_with fail
      clear u4 v4
      refine hK _ _ trivial ?_
      clear hK K
      refine wpT_doneN ?_
      have t0_ : ((w2.setCell ⟨w.heap.size, 3, none⟩ (.slice B3 t.args.length d3)).setCell ⟨w.heap.size, 4, none⟩ (.slice B4 t.res.length d4)).cell? ⟨w.heap.size, 0, none⟩ = some (.int .i64 t.kind) := (cell_at HT4.out 0).trans rfl
      have r0_ : ((w2.setCell ⟨w.heap.size, 3, none⟩ (.slice B3 t.args.length d3)).setCell ⟨w.heap.size, 4, none⟩ (.slice B4 t.res.length d4)).cell? ⟨w.heap.size + 1, 0, none⟩ = some (.int .i64 0) := (cell_at HR4.out 0).trans rfl
      have s0_ : ((w2.setCell ⟨w.heap.size, 3, none⟩ (.slice B3 t.args.length d3)).setCell ⟨w.heap.size, 4, none⟩ (.slice B4 t.res.length d4)).frozen? ⟨w.heap.size + 1, 0, none⟩ = false := free_at HR4.out 0
      have t1_ : ((w2.setCell ⟨w.heap.size, 3, none⟩ (.slice B3 t.args.length d3)).setCell ⟨w.heap.size, 4, none⟩ (.slice B4 t.res.length d4)).cell? ⟨w.heap.size, 1, none⟩ = some (.string t.pkg) := (cell_at HT4.out 1).trans rfl
      have r1_ : ((w2.setCell ⟨w.heap.size, 3, none⟩ (.slice B3 t.args.length d3)).setCell ⟨w.heap.size, 4, none⟩ (.slice B4 t.res.length d4)).cell? ⟨w.heap.size + 1, 1, none⟩ = some (.string ⟨#[]⟩) := (cell_at HR4.out 1).trans rfl
      have s1_ : ((w2.setCell ⟨w.heap.size, 3, none⟩ (.slice B3 t.args.length d3)).setCell ⟨w.heap.size, 4, none⟩ (.slice B4 t.res.length d4)).frozen? ⟨w.heap.size + 1, 1, none⟩ = false := free_at HR4.out 1
      have t2_ : ((w2.setCell ⟨w.heap.size, 3, none⟩ (.slice B3 t.args.length d3)).setCell ⟨w.heap.size, 4, none⟩ (.slice B4 t.res.length d4)).cell? ⟨w.heap.size, 2, none⟩ = some (.string t.name) := (cell_at HT4.out 2).trans rfl
      have r2_ : ((w2.setCell ⟨w.heap.size, 3, none⟩ (.slice B3 t.args.length d3)).setCell ⟨w.heap.size, 4, none⟩ (.slice B4 t.res.length d4)).cell? ⟨w.heap.size + 1, 2, none⟩ = some (.string ⟨#[]⟩) := (cell_at HR4.out 2).trans rfl
      have s2_ : ((w2.setCell ⟨w.heap.size, 3, none⟩ (.slice B3 t.args.length d3)).setCell ⟨w.heap.size, 4, none⟩ (.slice B4 t.res.length d4)).frozen? ⟨w.heap.size + 1, 2, none⟩ = false := free_at HR4.out 2
      have t3_ : ((w2.setCell ⟨w.heap.size, 3, none⟩ (.slice B3 t.args.length d3)).setCell ⟨w.heap.size, 4, none⟩ (.slice B4 t.res.length d4)).cell? ⟨w.heap.size, 3, none⟩ = some (.slice B3 t.args.length d3) := (cell_at HT4.out 3).trans rfl
      have r3_ : ((w2.setCell ⟨w.heap.size, 3, none⟩ (.slice B3 t.args.length d3)).setCell ⟨w.heap.size, 4, none⟩ (.slice B4 t.res.length d4)).cell? ⟨w.heap.size + 1, 3, none⟩ = some (.slice none 0 0) := (cell_at HR4.out 3).trans rfl
      have s3_ : ((w2.setCell ⟨w.heap.size, 3, none⟩ (.slice B3 t.args.length d3)).setCell ⟨w.heap.size, 4, none⟩ (.slice B4 t.res.length d4)).frozen? ⟨w.heap.size + 1, 3, none⟩ = false := free_at HR4.out 3
      have t4_ : ((w2.setCell ⟨w.heap.size, 3, none⟩ (.slice B3 t.args.length d3)).setCell ⟨w.heap.size, 4, none⟩ (.slice B4 t.res.length d4)).cell? ⟨w.heap.size, 4, none⟩ = some (.slice B4 t.res.length d4) := (cell_at HT4.out 4).trans rfl
      have r4_ : ((w2.setCell ⟨w.heap.size, 3, none⟩ (.slice B3 t.args.length d3)).setCell ⟨w.heap.size, 4, none⟩ (.slice B4 t.res.length d4)).cell? ⟨w.heap.size + 1, 4, none⟩ = some (.slice none 0 0) := (cell_at HR4.out 4).trans rfl
      have s4_ : ((w2.setCell ⟨w.heap.size, 3, none⟩ (.slice B3 t.args.length d3)).setCell ⟨w.heap.size, 4, none⟩ (.slice B4 t.res.length d4)).frozen? ⟨w.heap.size + 1, 4, none⟩ = false := free_at HR4.out 4
      have h0_ : (((w2.setCell ⟨w.heap.size, 3, none⟩ (.slice B3 t.args.length d3)).setCell ⟨w.heap.size, 4, none⟩ (.slice B4 t.res.length d4)).setCell ⟨w.heap.size + 1, 0, none⟩ (.int .i64 t.kind)).heap[w.heap.size + 1]? = some (.cells #[.int .i64 t.kind, .string ⟨#[]⟩, .string ⟨#[]⟩, .slice none 0 0, .slice none 0 0] 26 (0, 0)) := set_at HR4.out 0 (.int .i64 t.kind)
      have h1_ : ((((w2.setCell ⟨w.heap.size, 3, none⟩ (.slice B3 t.args.length d3)).setCell ⟨w.heap.size, 4, none⟩ (.slice B4 t.res.length d4)).setCell ⟨w.heap.size + 1, 0, none⟩ (.int .i64 t.kind)).setCell ⟨w.heap.size + 1, 1, none⟩ (.string t.pkg)).heap[w.heap.size + 1]? = some (.cells #[.int .i64 t.kind, .string t.pkg, .string ⟨#[]⟩, .slice none 0 0, .slice none 0 0] 26 (0, 0)) := set_at h0_ 1 (.string t.pkg)
      have h2_ : (((((w2.setCell ⟨w.heap.size, 3, none⟩ (.slice B3 t.args.length d3)).setCell ⟨w.heap.size, 4, none⟩ (.slice B4 t.res.length d4)).setCell ⟨w.heap.size + 1, 0, none⟩ (.int .i64 t.kind)).setCell ⟨w.heap.size + 1, 1, none⟩ (.string t.pkg)).setCell ⟨w.heap.size + 1, 2, none⟩ (.string t.name)).heap[w.heap.size + 1]? = some (.cells #[.int .i64 t.kind, .string t.pkg, .string t.name, .slice none 0 0, .slice none 0 0] 26 (0, 0)) := set_at h1_ 2 (.string t.name)
      have h3_ : ((((((w2.setCell ⟨w.heap.size, 3, none⟩ (.slice B3 t.args.length d3)).setCell ⟨w.heap.size, 4, none⟩ (.slice B4 t.res.length d4)).setCell ⟨w.heap.size + 1, 0, none⟩ (.int .i64 t.kind)).setCell ⟨w.heap.size + 1, 1, none⟩ (.string t.pkg)).setCell ⟨w.heap.size + 1, 2, none⟩ (.string t.name)).setCell ⟨w.heap.size + 1, 3, none⟩ (.slice B3 t.args.length d3)).heap[w.heap.size + 1]? = some (.cells #[.int .i64 t.kind, .string t.pkg, .string t.name, .slice B3 t.args.length d3, .slice none 0 0] 26 (0, 0)) := set_at h2_ 3 (.slice B3 t.args.length d3)
      have h4_ : (((((((w2.setCell ⟨w.heap.size, 3, none⟩ (.slice B3 t.args.length d3)).setCell ⟨w.heap.size, 4, none⟩ (.slice B4 t.res.length d4)).setCell ⟨w.heap.size + 1, 0, none⟩ (.int .i64 t.kind)).setCell ⟨w.heap.size + 1, 1, none⟩ (.string t.pkg)).setCell ⟨w.heap.size + 1, 2, none⟩ (.string t.name)).setCell ⟨w.heap.size + 1, 3, none⟩ (.slice B3 t.args.length d3)).setCell ⟨w.heap.size + 1, 4, none⟩ (.slice B4 t.res.length d4)).heap[w.heap.size + 1]? = some (.cells #[.int .i64 t.kind, .string t.pkg, .string t.name, .slice B3 t.args.length d3, .slice B4 t.res.length d4] 26 (0, 0)) := set_at h3_ 4 (.slice B4 t.res.length d4)
      have hset : Chg (fun k => k = w.heap.size ∨ k = w.heap.size + 1) w2 (((((((w2.setCell ⟨w.heap.size, 3, none⟩ (.slice B3 t.args.length d3)).setCell ⟨w.heap.size, 4, none⟩ (.slice B4 t.res.length d4)).setCell ⟨w.heap.size + 1, 0, none⟩ (.int .i64 t.kind)).setCell ⟨w.heap.size + 1, 1, none⟩ (.string t.pkg)).setCell ⟨w.heap.size + 1, 2, none⟩ (.string t.name)).setCell ⟨w.heap.size + 1, 3, none⟩ (.slice B3 t.args.length d3)).setCell ⟨w.heap.size + 1, 4, none⟩ (.slice B4 t.res.length d4)) := ((((((((Chg.refl (fun k => k = w.heap.size ∨ k = w.heap.size + 1) w2).setCell (p := ⟨w.heap.size, 3, none⟩) (fun _ => .inl rfl) (.slice B3 t.args.length d3)).setCell (p := ⟨w.heap.size, 4, none⟩) (fun _ => .inl rfl) (.slice B4 t.res.length d4)).setCell (p := ⟨w.heap.size + 1, 0, none⟩) (fun _ => .inr rfl) (.int .i64 t.kind)).setCell (p := ⟨w.heap.size + 1, 1, none⟩) (fun _ => .inr rfl) (.string t.pkg)).setCell (p := ⟨w.heap.size + 1, 2, none⟩) (fun _ => .inr rfl) (.string t.name)).setCell (p := ⟨w.heap.size + 1, 3, none⟩) (fun _ => .inr rfl) (.slice B3 t.args.length d3)).setCell (p := ⟨w.heap.size + 1, 4, none⟩) (fun _ => .inr rfl) (.slice B4 t.res.length d4))
      have HSET := Lib.hid hset
      have hd : ∀ (i : Nat) (v : Value), ([.int .i64 t.kind, .string t.pkg, .string t.name, .slice B3 t.args.length d3, .slice B4 t.res.length d4] : List Value)[i]? = some v → (((((((w2.setCell ⟨w.heap.size, 3, none⟩ (.slice B3 t.args.length d3)).setCell ⟨w.heap.size, 4, none⟩ (.slice B4 t.res.length d4)).setCell ⟨w.heap.size + 1, 0, none⟩ (.int .i64 t.kind)).setCell ⟨w.heap.size + 1, 1, none⟩ (.string t.pkg)).setCell ⟨w.heap.size + 1, 2, none⟩ (.string t.name)).setCell ⟨w.heap.size + 1, 3, none⟩ (.slice B3 t.args.length d3)).setCell ⟨w.heap.size + 1, 4, none⟩ (.slice B4 t.res.length d4)).cell? ⟨w.heap.size + 1, i, none⟩ = some v := fun i v q => by rw [cell_at h4_]; simpa using q
      have HD := Lib.hid hd
      have HF := Lib.hid (Below.chg HB2.out HSET.out HB2.out.size (fun i q => by omega))
      have HL3 := Lib.hid ((HL3.out.laterF HC2.out (fun k q => q.elim)).laterF HSET.out (fun k q => by have := HSZ.out; rw [World.size_drew]; omega))
      have HL4 := Lib.hid (HL4.out.laterF HSET.out (fun k q => by have := HSZ.out; have := HC1.out.size; rw [World.size_drew] at this; omega))
      clear hd hset h0_ h1_ h2_ h3_ h4_
      go_wp2_with fail
      refine bodyPost_ret (v := .agg #[.int .i64 t.kind, .string t.pkg, .string t.name, .slice B3 t.args.length d3, .slice B4 t.res.length d4]) (by have d0 := HD.out 0 _ rfl; have d1 := HD.out 1 _ rfl; have d2 := HD.out 2 _ rfl; have d3_ := HD.out 3 _ rfl; have d4_ := HD.out 4 _ rfl; simp [results, Try.results48, go_sem, d0, d1, d2, d3_, d4_]) rfl ?_
      exact ⟨_, rfl, Ty.shut (w := NewW w.heap.size none _) (t := t) Q0.out Q1.out Q2.out (HL3.out.lowF (by have := HSZ.out; rw [World.size_drew]; omega)) (HL4.out.lowF (by have := HSZ.out; have := HC1.out.size; rw [World.size_drew] at this; omega)), HF.out⟩
  case refine_2 =>
    have k4 : ((w.alloc (.cells #[.int .i64 t.kind, .string t.pkg, .string t.name, .slice A3 t.args.length c3, .slice A4 t.res.length c4] 26)).alloc (.cells #[.int .i64 0, .string ⟨#[]⟩, .string ⟨#[]⟩, .slice none 0 0, .slice none 0 0] 26)).drew.cell? ⟨w.heap.size, 4, none⟩ = some (.slice A4 t.res.length c4) := (cell_at HBT0.out 4).trans rfl
    go_wp2_with fail
    clear k4
    refine hK _ _ trivial ?_
    clear hK K
    refine wpT_one rfl (fun K hK => ?_)
    have k3 : ((w.alloc (.cells #[.int .i64 t.kind, .string t.pkg, .string t.name, .slice A3 t.args.length c3, .slice A4 t.res.length c4] 26)).alloc (.cells #[.int .i64 0, .string ⟨#[]⟩, .string ⟨#[]⟩, .slice none 0 0, .slice none 0 0] 26)).drew.cell? ⟨w.heap.size, 3, none⟩ = some (.slice A3 t.args.length c3) := (cell_at HBT0.out 3).trans rfl
    go_wp2_with fail
    clear k3
    refine hK _ _ trivial ?_
    clear hK K
    refine wpT_one rfl (fun K hK => ?_)
    go_wp2_with fail
    refine (eachTy_any ((w.alloc (.cells #[.int .i64 t.kind, .string t.pkg, .string t.name, .slice A3 t.args.length c3, .slice A4 t.res.length c4] 26)).alloc (.cells #[.int .i64 0, .string ⟨#[]⟩, .string ⟨#[]⟩, .slice none 0 0, .slice none 0 0] 26)).drew t.args A3 c3 (Q3.out.sub (Below.sub HB0.out)) N3.out 48 #[] (fun x => x) enters_copied (fun x hx w' vs _ hv => OC3.out x hx w' vs hv)).mono ?_
    rw [List.map_id']
    rintro e w1 ⟨B3, d3, rfl, hd, _, hb⟩
    have HL3 := Lib.hid (new_sl hd)
    have HBT1 := Lib.hid ((hb.block _ (lt_of_block HBT0.out)).trans HBT0.out)
    have HBR1 := Lib.hid ((hb.block _ (lt_of_block HBR0.out)).trans HBR0.out)
    have HB1 := Lib.hid (HB0.out.trans (hb.mono HB0.out.size))
    have HC1 := Lib.hid (below_none hb)
    clear hd hb
    go_wp2_with fail
    refine hK _ _ trivial ?_
    clear hK K
    apply wpT_get rfl
    · go_simp
    · intro wS hS
      go_simp
      try rfl
    intro K hK
    go_simp
    refine hK _ ?_
    clear hK K
    refine wpT_one rfl (fun K hK => ?_)
    go_wp2_with fail
    refine (eachTy_any w1 t.res A4 c4 (Q4.out.sub (Below.sub HB1.out)) N4.out 48 #[] (fun x => x) enters_copied (fun x hx w' vs _ hv => OC4.out x hx w' vs hv)).mono ?_
    rw [List.map_id']
    rintro e w2 ⟨B4, d4, rfl, hd, _, hb⟩
    have HL4 := Lib.hid (new_sl hd)
    have HBT2 := Lib.hid ((hb.block _ (lt_of_block HBT1.out)).trans HBT1.out)
    have HBR2 := Lib.hid ((hb.block _ (lt_of_block HBR1.out)).trans HBR1.out)
    have HB2 := Lib.hid (HB1.out.trans (hb.mono HB1.out.size))
    have HC2 := Lib.hid (below_none hb)
    clear hd hb
    go_wp2_with fail
    refine hK _ _ trivial ?_
    clear hK K
    have HT3 := Lib.hid (show (w2.setCell ⟨w.heap.size, 3, none⟩ (.slice B3 t.args.length d3)).heap[w.heap.size]? = some (.cells #[.int .i64 t.kind, .string t.pkg, .string t.name, .slice B3 t.args.length d3, .slice A4 t.res.length c4] 26 (0, 0)) from set_at HBT2.out 3 (.slice B3 t.args.length d3))
    have HT4 := Lib.hid (show ((w2.setCell ⟨w.heap.size, 3, none⟩ (.slice B3 t.args.length d3)).setCell ⟨w.heap.size, 4, none⟩ (.slice B4 t.res.length d4)).heap[w.heap.size]? = some (.cells #[.int .i64 t.kind, .string t.pkg, .string t.name, .slice B3 t.args.length d3, .slice B4 t.res.length d4] 26 (0, 0)) from set_at HT3.out 4 (.slice B4 t.res.length d4))
    have HR4 := Lib.hid (show ((w2.setCell ⟨w.heap.size, 3, none⟩ (.slice B3 t.args.length d3)).setCell ⟨w.heap.size, 4, none⟩ (.slice B4 t.res.length d4)).heap[w.heap.size + 1]? = some (.cells #[.int .i64 0, .string ⟨#[]⟩, .string ⟨#[]⟩, .slice none 0 0, .slice none 0 0] 26 (0, 0)) from set_old (set_old HBR2.out (p := ⟨w.heap.size, 3, none⟩) (by simp) _) (p := ⟨w.heap.size, 4, none⟩) (by simp) _)
    have u3 : w2.cell? ⟨w.heap.size, 3, none⟩ = some (.slice A3 t.args.length c3) := (cell_at HBT2.out 3).trans rfl
    have v3 : w2.frozen? ⟨w.heap.size, 3, none⟩ = false := free_at HBT2.out 3
    refine wpT_one rfl (fun K hK => ?_)
    go_wp2_with fail
    clear u3 v3
    refine hK _ _ trivial ?_
    clear hK K
    apply wpT_get rfl
    · go_simp
    · intro wS hS
      go_simp
      try rfl
    intro K hK
    go_simp
    refine hK _ ?_
    clear hK K
    have u4 : (w2.setCell ⟨w.heap.size, 3, none⟩ (.slice B3 t.args.length d3)).cell? ⟨w.heap.size, 4, none⟩ = some (.slice A4 t.res.length c4) := (cell_at HT3.out 4).trans rfl
    have v4 : (w2.setCell ⟨w.heap.size, 3, none⟩ (.slice B3 t.args.length d3)).frozen? ⟨w.heap.size, 4, none⟩ = false := free_at HT3.out 4
    refine wpT_one rfl (fun K hK => ?_)
    go_wp2_with fail
    clear u4 v4
    refine hK _ _ trivial ?_
    clear hK K
    refine wpT_doneN ?_
    have t0_ : ((w2.setCell ⟨w.heap.size, 3, none⟩ (.slice B3 t.args.length d3)).setCell ⟨w.heap.size, 4, none⟩ (.slice B4 t.res.length d4)).cell? ⟨w.heap.size, 0, none⟩ = some (.int .i64 t.kind) := (cell_at HT4.out 0).trans rfl
    have r0_ : ((w2.setCell ⟨w.heap.size, 3, none⟩ (.slice B3 t.args.length d3)).setCell ⟨w.heap.size, 4, none⟩ (.slice B4 t.res.length d4)).cell? ⟨w.heap.size + 1, 0, none⟩ = some (.int .i64 0) := (cell_at HR4.out 0).trans rfl
    have s0_ : ((w2.setCell ⟨w.heap.size, 3, none⟩ (.slice B3 t.args.length d3)).setCell ⟨w.heap.size, 4, none⟩ (.slice B4 t.res.length d4)).frozen? ⟨w.heap.size + 1, 0, none⟩ = false := free_at HR4.out 0
    have t1_ : ((w2.setCell ⟨w.heap.size, 3, none⟩ (.slice B3 t.args.length d3)).setCell ⟨w.heap.size, 4, none⟩ (.slice B4 t.res.length d4)).cell? ⟨w.heap.size, 1, none⟩ = some (.string t.pkg) := (cell_at HT4.out 1).trans rfl
    have r1_ : ((w2.setCell ⟨w.heap.size, 3, none⟩ (.slice B3 t.args.length d3)).setCell ⟨w.heap.size, 4, none⟩ (.slice B4 t.res.length d4)).cell? ⟨w.heap.size + 1, 1, none⟩ = some (.string ⟨#[]⟩) := (cell_at HR4.out 1).trans rfl
    have s1_ : ((w2.setCell ⟨w.heap.size, 3, none⟩ (.slice B3 t.args.length d3)).setCell ⟨w.heap.size, 4, none⟩ (.slice B4 t.res.length d4)).frozen? ⟨w.heap.size + 1, 1, none⟩ = false := free_at HR4.out 1
    have t2_ : ((w2.setCell ⟨w.heap.size, 3, none⟩ (.slice B3 t.args.length d3)).setCell ⟨w.heap.size, 4, none⟩ (.slice B4 t.res.length d4)).cell? ⟨w.heap.size, 2, none⟩ = some (.string t.name) := (cell_at HT4.out 2).trans rfl
    have r2_ : ((w2.setCell ⟨w.heap.size, 3, none⟩ (.slice B3 t.args.length d3)).setCell ⟨w.heap.size, 4, none⟩ (.slice B4 t.res.length d4)).cell? ⟨w.heap.size + 1, 2, none⟩ = some (.string ⟨#[]⟩) := (cell_at HR4.out 2).trans rfl
    have s2_ : ((w2.setCell ⟨w.heap.size, 3, none⟩ (.slice B3 t.args.length d3)).setCell ⟨w.heap.size, 4, none⟩ (.slice B4 t.res.length d4)).frozen? ⟨w.heap.size + 1, 2, none⟩ = false := free_at HR4.out 2
    have t3_ : ((w2.setCell ⟨w.heap.size, 3, none⟩ (.slice B3 t.args.length d3)).setCell ⟨w.heap.size, 4, none⟩ (.slice B4 t.res.length d4)).cell? ⟨w.heap.size, 3, none⟩ = some (.slice B3 t.args.length d3) := (cell_at HT4.out 3).trans rfl
    have r3_ : ((w2.setCell ⟨w.heap.size, 3, none⟩ (.slice B3 t.args.length d3)).setCell ⟨w.heap.size, 4, none⟩ (.slice B4 t.res.length d4)).cell? ⟨w.heap.size + 1, 3, none⟩ = some (.slice none 0 0) := (cell_at HR4.out 3).trans rfl
    have s3_ : ((w2.setCell ⟨w.heap.size, 3, none⟩ (.slice B3 t.args.length d3)).setCell ⟨w.heap.size, 4, none⟩ (.slice B4 t.res.length d4)).frozen? ⟨w.heap.size + 1, 3, none⟩ = false := free_at HR4.out 3
    have t4_ : ((w2.setCell ⟨w.heap.size, 3, none⟩ (.slice B3 t.args.length d3)).setCell ⟨w.heap.size, 4, none⟩ (.slice B4 t.res.length d4)).cell? ⟨w.heap.size, 4, none⟩ = some (.slice B4 t.res.length d4) := (cell_at HT4.out 4).trans rfl
    have r4_ : ((w2.setCell ⟨w.heap.size, 3, none⟩ (.slice B3 t.args.length d3)).setCell ⟨w.heap.size, 4, none⟩ (.slice B4 t.res.length d4)).cell? ⟨w.heap.size + 1, 4, none⟩ = some (.slice none 0 0) := (cell_at HR4.out 4).trans rfl
    have s4_ : ((w2.setCell ⟨w.heap.size, 3, none⟩ (.slice B3 t.args.length d3)).setCell ⟨w.heap.size, 4, none⟩ (.slice B4 t.res.length d4)).frozen? ⟨w.heap.size + 1, 4, none⟩ = false := free_at HR4.out 4
    have h0_ : (((w2.setCell ⟨w.heap.size, 3, none⟩ (.slice B3 t.args.length d3)).setCell ⟨w.heap.size, 4, none⟩ (.slice B4 t.res.length d4)).setCell ⟨w.heap.size + 1, 0, none⟩ (.int .i64 t.kind)).heap[w.heap.size + 1]? = some (.cells #[.int .i64 t.kind, .string ⟨#[]⟩, .string ⟨#[]⟩, .slice none 0 0, .slice none 0 0] 26 (0, 0)) := set_at HR4.out 0 (.int .i64 t.kind)
    have h1_ : ((((w2.setCell ⟨w.heap.size, 3, none⟩ (.slice B3 t.args.length d3)).setCell ⟨w.heap.size, 4, none⟩ (.slice B4 t.res.length d4)).setCell ⟨w.heap.size + 1, 0, none⟩ (.int .i64 t.kind)).setCell ⟨w.heap.size + 1, 1, none⟩ (.string t.pkg)).heap[w.heap.size + 1]? = some (.cells #[.int .i64 t.kind, .string t.pkg, .string ⟨#[]⟩, .slice none 0 0, .slice none 0 0] 26 (0, 0)) := set_at h0_ 1 (.string t.pkg)
    have h2_ : (((((w2.setCell ⟨w.heap.size, 3, none⟩ (.slice B3 t.args.length d3)).setCell ⟨w.heap.size, 4, none⟩ (.slice B4 t.res.length d4)).setCell ⟨w.heap.size + 1, 0, none⟩ (.int .i64 t.kind)).setCell ⟨w.heap.size + 1, 1, none⟩ (.string t.pkg)).setCell ⟨w.heap.size + 1, 2, none⟩ (.string t.name)).heap[w.heap.size + 1]? = some (.cells #[.int .i64 t.kind, .string t.pkg, .string t.name, .slice none 0 0, .slice none 0 0] 26 (0, 0)) := set_at h1_ 2 (.string t.name)
    have h3_ : ((((((w2.setCell ⟨w.heap.size, 3, none⟩ (.slice B3 t.args.length d3)).setCell ⟨w.heap.size, 4, none⟩ (.slice B4 t.res.length d4)).setCell ⟨w.heap.size + 1, 0, none⟩ (.int .i64 t.kind)).setCell ⟨w.heap.size + 1, 1, none⟩ (.string t.pkg)).setCell ⟨w.heap.size + 1, 2, none⟩ (.string t.name)).setCell ⟨w.heap.size + 1, 3, none⟩ (.slice B3 t.args.length d3)).heap[w.heap.size + 1]? = some (.cells #[.int .i64 t.kind, .string t.pkg, .string t.name, .slice B3 t.args.length d3, .slice none 0 0] 26 (0, 0)) := set_at h2_ 3 (.slice B3 t.args.length d3)
    have h4_ : (((((((w2.setCell ⟨w.heap.size, 3, none⟩ (.slice B3 t.args.length d3)).setCell ⟨w.heap.size, 4, none⟩ (.slice B4 t.res.length d4)).setCell ⟨w.heap.size + 1, 0, none⟩ (.int .i64 t.kind)).setCell ⟨w.heap.size + 1, 1, none⟩ (.string t.pkg)).setCell ⟨w.heap.size + 1, 2, none⟩ (.string t.name)).setCell ⟨w.heap.size + 1, 3, none⟩ (.slice B3 t.args.length d3)).setCell ⟨w.heap.size + 1, 4, none⟩ (.slice B4 t.res.length d4)).heap[w.heap.size + 1]? = some (.cells #[.int .i64 t.kind, .string t.pkg, .string t.name, .slice B3 t.args.length d3, .slice B4 t.res.length d4] 26 (0, 0)) := set_at h3_ 4 (.slice B4 t.res.length d4)
    have hset : Chg (fun k => k = w.heap.size ∨ k = w.heap.size + 1) w2 (((((((w2.setCell ⟨w.heap.size, 3, none⟩ (.slice B3 t.args.length d3)).setCell ⟨w.heap.size, 4, none⟩ (.slice B4 t.res.length d4)).setCell ⟨w.heap.size + 1, 0, none⟩ (.int .i64 t.kind)).setCell ⟨w.heap.size + 1, 1, none⟩ (.string t.pkg)).setCell ⟨w.heap.size + 1, 2, none⟩ (.string t.name)).setCell ⟨w.heap.size + 1, 3, none⟩ (.slice B3 t.args.length d3)).setCell ⟨w.heap.size + 1, 4, none⟩ (.slice B4 t.res.length d4)) := ((((((((Chg.refl (fun k => k = w.heap.size ∨ k = w.heap.size + 1) w2).setCell (p := ⟨w.heap.size, 3, none⟩) (fun _ => .inl rfl) (.slice B3 t.args.length d3)).setCell (p := ⟨w.heap.size, 4, none⟩) (fun _ => .inl rfl) (.slice B4 t.res.length d4)).setCell (p := ⟨w.heap.size + 1, 0, none⟩) (fun _ => .inr rfl) (.int .i64 t.kind)).setCell (p := ⟨w.heap.size + 1, 1, none⟩) (fun _ => .inr rfl) (.string t.pkg)).setCell (p := ⟨w.heap.size + 1, 2, none⟩) (fun _ => .inr rfl) (.string t.name)).setCell (p := ⟨w.heap.size + 1, 3, none⟩) (fun _ => .inr rfl) (.slice B3 t.args.length d3)).setCell (p := ⟨w.heap.size + 1, 4, none⟩) (fun _ => .inr rfl) (.slice B4 t.res.length d4))
    have HSET := Lib.hid hset
    have hd : ∀ (i : Nat) (v : Value), ([.int .i64 t.kind, .string t.pkg, .string t.name, .slice B3 t.args.length d3, .slice B4 t.res.length d4] : List Value)[i]? = some v → (((((((w2.setCell ⟨w.heap.size, 3, none⟩ (.slice B3 t.args.length d3)).setCell ⟨w.heap.size, 4, none⟩ (.slice B4 t.res.length d4)).setCell ⟨w.heap.size + 1, 0, none⟩ (.int .i64 t.kind)).setCell ⟨w.heap.size + 1, 1, none⟩ (.string t.pkg)).setCell ⟨w.heap.size + 1, 2, none⟩ (.string t.name)).setCell ⟨w.heap.size + 1, 3, none⟩ (.slice B3 t.args.length d3)).setCell ⟨w.heap.size + 1, 4, none⟩ (.slice B4 t.res.length d4)).cell? ⟨w.heap.size + 1, i, none⟩ = some v := fun i v q => by rw [cell_at h4_]; simpa using q
    have HD := Lib.hid hd
    have HF := Lib.hid (Below.chg HB2.out HSET.out HB2.out.size (fun i q => by omega))
    have HL3 := Lib.hid ((HL3.out.laterF HC2.out (fun k q => q.elim)).laterF HSET.out (fun k q => by have := HSZ.out; rw [World.size_drew]; omega))
    have HL4 := Lib.hid (HL4.out.laterF HSET.out (fun k q => by have := HSZ.out; have := HC1.out.size; rw [World.size_drew] at this; omega))
    clear hd hset h0_ h1_ h2_ h3_ h4_
    go_wp2_with fail
    refine bodyPost_ret (v := .agg #[.int .i64 t.kind, .string t.pkg, .string t.name, .slice B3 t.args.length d3, .slice B4 t.res.length d4]) (by have d0 := HD.out 0 _ rfl; have d1 := HD.out 1 _ rfl; have d2 := HD.out 2 _ rfl; have d3_ := HD.out 3 _ rfl; have d4_ := HD.out 4 _ rfl; simp [results, Try.results48, go_sem, d0, d1, d2, d3_, d4_]) rfl ?_
    exact ⟨_, rfl, Ty.shut (w := NewW w.heap.size none _) (t := t) Q0.out Q1.out Q2.out (HL3.out.lowF (by have := HSZ.out; rw [World.size_drew]; omega)) (HL4.out.lowF (by have := HSZ.out; have := HC1.out.size; rw [World.size_drew] at this; omega)), HF.out⟩
theorem copied_size : ∀ (n : Nat) (t : Ty), SizeOf.sizeOf t < n → t.sz ≤ 1000000 → CopTy t
  | 0, _, h, _ => absurd h (Nat.not_lt_zero _)
  | n + 1, .mk k p s xs ys, h, hz => by
    simp only [Ty.mk.sizeOf_spec] at h
    have hz' := Ty.sz_eq (.mk k p s xs ys)
    simp only [Ty.args, Ty.res] at hz'
    exact copied_any _ (by have := Ty.len_sz xs; simp only [Ty.args]; omega) (by have := Ty.len_sz ys; simp only [Ty.res]; omega)
      (fun x hx => copied_size n x (by have := List.sizeOf_lt_of_mem hx; simp only [Ty.args] at this; omega) (by have := Ty.mem_sz hx; simp only [Ty.args] at this; omega))
      (fun x hx => copied_size n x (by have := List.sizeOf_lt_of_mem hx; simp only [Ty.res] at this; omega) (by have := Ty.mem_sz hx; simp only [Ty.res] at this; omega))
theorem copTy (t : Ty) (hz : t.sz ≤ 1000000) : CopTy t := copied_size _ t (Nat.lt_succ_self _) hz
end Go.Proofs.Ytiecbgclkdlpkaa.fr

