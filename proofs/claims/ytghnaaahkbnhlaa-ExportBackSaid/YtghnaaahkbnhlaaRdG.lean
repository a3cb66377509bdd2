/-
  The walks of the closures by which export's reader reads expressions and statements. The conditions: the reader stands (RdS); the closure has caught it.
-/
import Derived.Test.YtghnaaahkbnhlaaRdF
namespace Go.Proofs.Ytghnaaahkbnhlaa
open Go.RowKit Go.Lib
set_option linter.unusedVariables false
set_option linter.unusedSimpArgs false

def exprI (d : Nat) : Pa Ex := fun l => bindP (numP l) fun o l1 => bindP (numP l1) fun n l2 => bindP (textP l2) fun s l3 => bindP (takesP (exprP d) l3) fun ks l4 => some (.mk o n s ks, l4)
def statI (d : Nat) : Pa St := fun l => bindP (numP l) fun o l1 => bindP (numP l1) fun n l2 => bindP (takesP (exprP d) l2) fun es l3 => bindP (takesP (statP d) l3) fun b l4 => bindP (takesP (statP d) l4) fun e l5 => some (.mk o n es b e, l5)

set_option maxRecDepth 100000 in
set_option maxHeartbeats 3200000 in
theorem expr1_any (W0 w : World) (br kc : Nat) (dp : Int) (d : Nat) (e_kids : Enters 102) (o_kids : RdOne W0 br dp (exprP d) Ex.d 102) (l0 : List UInt8) (h : RdS W0 w br l0 dp) (hk : w.heap[kc]? = some (.cells #[.pointer (some ⟨br, 0, none⟩)] 77 (0, 0))) (hkb : kc ≠ br) : Calls Try.prog 110 #[.pointer (some ⟨kc, 0, none⟩)] w (RdP W0 br dp w (exprI d l0) (ValR w Ex.d)) := by
  have HKN := Lib.hid hkb; have HKL := Lib.hid (lt_of_block hk)
  have hA : Chg (fun _ => False) w (w.alloc (.cells #[.int .i64 0, .int .i64 0, .string ⟨#[]⟩, .slice none 0 0] 132)) := (Chg.refl _ _).alloc _
  have HS := Lib.hid (h.keep hA id (fun _ q => q.elim))
  have HBr := Lib.hid (show (w.alloc (.cells #[.int .i64 0, .int .i64 0, .string ⟨#[]⟩, .slice none 0 0] 132)).heap[w.heap.size]? = some (.cells #[.int .i64 0, .int .i64 0, .string ⟨#[]⟩, .slice none 0 0] 132 (0, 0)) from alloc_at w _)
  have HKc := Lib.hid (hA.heap hk id)
  have k0 : (w.alloc (.cells #[.int .i64 0, .int .i64 0, .string ⟨#[]⟩, .slice none 0 0] 132)).cell? ⟨kc, 0, none⟩ = some (.pointer (some ⟨br, 0, none⟩)) := (cell_at HKc.out 0).trans rfl
  have HBR := Lib.hid h.lt
  have HW0 := Lib.hid (show W0.heap.size ≤ w.heap.size from Nat.le_trans h.br_ge (Nat.le_of_lt h.lt))
  have HC := Lib.hid (hA.mono (S' := fun k => k = br) (fun _ _ q => q.elim))
  have HK := Lib.hid (show w.heap.size < (w.alloc (.cells #[.int .i64 0, .int .i64 0, .string ⟨#[]⟩, .slice none 0 0] 132)).heap.size by simp)
  clear h hA hk hkb
  go_enter Try.func110, Try.ntmps110
  go_wp2_with fail
  refine (rdnum_any W0 _ br l0 dp HS.out).mono ?_
  intro e w1 he
  rcases he.split with ⟨x0, l1, v0, hp, rfl, hv, hs, hc⟩ | ⟨hp, u, rfl, hc⟩
  case inr =>
    have HT := Lib.hid (show exprI d l0 = none by rw [show exprI d l0 = bindP (numP l0) (fun x0 l1 => bindP (numP l1) fun x1 l2 => bindP (textP l2) fun x2 l3 => bindP (takesP (exprP d) l3) fun x3 l4 => some ((Ex.mk x0 x1 x2 x3), l4)) from rfl, hp]; rfl)
    have HC := Lib.hid (HC.out.trans hc (fun _ _ e => e))
    clear hp hc he
    go_wp2_with fail
    refine ⟨rfl, ?_⟩
    rw [HT.out]
    exact ⟨_, rfl, HC.out⟩
  have HT := Lib.hid (show exprI d l0 = bindP (numP l1) fun x1 l2 => bindP (textP l2) fun x2 l3 => bindP (takesP (exprP d) l3) fun x3 l4 => some ((Ex.mk x0 x1 x2 x3), l4) by rw [show exprI d l0 = bindP (numP l0) (fun x0 l1 => bindP (numP l1) fun x1 l2 => bindP (textP l2) fun x2 l3 => bindP (takesP (exprP d) l3) fun x3 l4 => some ((Ex.mk x0 x1 x2 x3), l4)) from rfl, hp]; rfl)
  have HX0 := Lib.hid (numP_in hp)
  obtain rfl := (show v0 = .int .i64 x0 from hv)
  have HKc := Lib.hid (hc.heap HKc.out HKN.out)
  clear k0
  have HBr := Lib.hid (hc.heap HBr.out (by have := HBR.out; omega))
  have HN0 := Lib.hid (show w.heap.size < (w.alloc (.cells #[.int .i64 0, .int .i64 0, .string ⟨#[]⟩, .slice none 0 0] 132)).heap.size ∧ br < (w.alloc (.cells #[.int .i64 0, .int .i64 0, .string ⟨#[]⟩, .slice none 0 0] 132)).heap.size from ⟨HK.out, Nat.lt_of_lt_of_le HBR.out HC.out.size⟩)
  have HC := Lib.hid (HC.out.trans hc (fun _ _ e => e))
  have HS := Lib.hid hs
  have HNr := Lib.hid (lt_of_block HBr.out)
  clear hp hs hc he hv
  have HK1 := Lib.hid (show w.heap.size < w1.heap.size from HNr.out)
  have hA : Chg (fun _ => False) w1 (w1.alloc (.cells #[.int .i64 x0, .int .i64 0, .string ⟨#[]⟩, .slice none 0 0] 132)) := (Chg.refl _ _).alloc _
  have HBl := Lib.hid (show (w1.alloc (.cells #[.int .i64 x0, .int .i64 0, .string ⟨#[]⟩, .slice none 0 0] 132)).heap[w1.heap.size]? = some (.cells #[.int .i64 x0, .int .i64 0, .string ⟨#[]⟩, .slice none 0 0] 132 (0, 0)) from alloc_at w1 _)
  have HKc := Lib.hid (hA.heap HKc.out id)
  have HBr := Lib.hid (hA.heap HBr.out id)
  have HS := Lib.hid (HS.out.keep hA id (fun _ q => q.elim))
  have HC := Lib.hid (HC.out.trans hA (fun _ _ q => q.elim))
  clear hA
  have HNr := Lib.hid (lt_of_block HBr.out); have HNl := Lib.hid (lt_of_block HBl.out)
  have k0 : (w1.alloc (.cells #[.int .i64 x0, .int .i64 0, .string ⟨#[]⟩, .slice none 0 0] 132)).cell? ⟨kc, 0, none⟩ = some (.pointer (some ⟨br, 0, none⟩)) := (cell_at HKc.out 0).trans rfl
  go_wp2_with fail
  refine (rdnum_any W0 _ br l1 dp HS.out).mono ?_
  intro e w2 he
  rcases he.split with ⟨x1, l2, v1, hp, rfl, hv, hs, hc⟩ | ⟨hp, u, rfl, hc⟩
  case inr =>
    have HT := Lib.hid (show exprI d l0 = none by rw [HT.out, hp]; rfl)
    have HC := Lib.hid (HC.out.trans hc (fun _ _ e => e))
    clear hp hc he
    go_wp2_with fail
    refine ⟨rfl, ?_⟩
    rw [HT.out]
    exact ⟨_, rfl, HC.out⟩
  have HT := Lib.hid (show exprI d l0 = bindP (textP l2) fun x2 l3 => bindP (takesP (exprP d) l3) fun x3 l4 => some ((Ex.mk x0 x1 x2 x3), l4) by rw [HT.out, hp]; rfl)
  have HX1 := Lib.hid (numP_in hp)
  obtain rfl := (show v1 = .int .i64 x1 from hv)
  have HKc := Lib.hid (hc.heap HKc.out HKN.out)
  clear k0
  have HBr := Lib.hid (hc.heap HBr.out (by have := HBR.out; omega))
  have HBl := Lib.hid (hc.heap HBl.out (by have := HBR.out; have := HK1.out; omega))
  have HN1 := Lib.hid (show w.heap.size < (w1.alloc (.cells #[.int .i64 x0, .int .i64 0, .string ⟨#[]⟩, .slice none 0 0] 132)).heap.size ∧ br < (w1.alloc (.cells #[.int .i64 x0, .int .i64 0, .string ⟨#[]⟩, .slice none 0 0] 132)).heap.size ∧ w1.heap.size < (w1.alloc (.cells #[.int .i64 x0, .int .i64 0, .string ⟨#[]⟩, .slice none 0 0] 132)).heap.size from ⟨HNr.out, Nat.lt_of_lt_of_le HBR.out HC.out.size, HNl.out⟩)
  have HC := Lib.hid (HC.out.trans hc (fun _ _ e => e))
  have HS := Lib.hid hs
  have HNr := Lib.hid (lt_of_block HBr.out)
  have HNl := Lib.hid (lt_of_block HBl.out)
  clear hp hs hc he hv
  have f1 := free_at HBl.out 1
  have c_1 : w2.cell? ⟨w1.heap.size, 1, none⟩ = some (.int .i64 0) := (cell_at HBl.out 1).trans rfl
  have hset : Chg (fun k => k = w1.heap.size) w2 (w2.setCell ⟨w1.heap.size, 1, none⟩ (.int .i64 x1)) := ((Chg.refl (fun k => k = w1.heap.size) w2).setCell (p := ⟨w1.heap.size, 1, none⟩) (fun _ => rfl) (.int .i64 x1))
  have HBr := Lib.hid (hset.heap HBr.out (by have := HK1.out; omega))
  have HBl := Lib.hid (show (w2.setCell ⟨w1.heap.size, 1, none⟩ (.int .i64 x1)).heap[w1.heap.size]? = some (.cells #[.int .i64 x0, .int .i64 x1, .string ⟨#[]⟩, .slice none 0 0] 132 (0, 0)) from set_at HBl.out 1 (.int .i64 x1))
  have HKc := Lib.hid (hset.heap HKc.out (by have := HKL.out; have := HK1.out; omega))
  have HS := Lib.hid (HS.out.keep hset (fun q => by have := HBR.out; have := HK1.out; omega) (fun k q => by have := HW0.out; have := HK1.out; omega))
  have HC := Lib.hid (HC.out.trans hset (fun i hi q => by have := HK1.out; omega))
  clear hset
  have HNr := Lib.hid (lt_of_block HBr.out); have HNl := Lib.hid (lt_of_block HBl.out)
  have k0 : (w2.setCell ⟨w1.heap.size, 1, none⟩ (.int .i64 x1)).cell? ⟨kc, 0, none⟩ = some (.pointer (some ⟨br, 0, none⟩)) := (cell_at HKc.out 0).trans rfl
  go_wp2_with fail
  clear f1 c_1
  refine (rdtext_any W0 _ br l2 dp HS.out).mono ?_
  intro e w3 he
  rcases he.split with ⟨x2, l3, v2, hp, rfl, hv, hs, hc⟩ | ⟨hp, u, rfl, hc⟩
  case inr =>
    have HT := Lib.hid (show exprI d l0 = none by rw [HT.out, hp]; rfl)
    have HC := Lib.hid (HC.out.trans hc (fun _ _ e => e))
    clear hp hc he
    go_wp2_with fail
    refine ⟨rfl, ?_⟩
    rw [HT.out]
    exact ⟨_, rfl, HC.out⟩
  have HT := Lib.hid (show exprI d l0 = bindP (takesP (exprP d) l3) fun x3 l4 => some ((Ex.mk x0 x1 x2 x3), l4) by rw [HT.out, hp]; rfl)
  have HX2 := Lib.hid (show x2.size ≤ Reach by have h1 := textP_size hp; have h2 := HS.out.len; unfold Reach; omega)
  obtain rfl := (show v2 = .string x2 from hv)
  have HKc := Lib.hid (hc.heap HKc.out HKN.out)
  clear k0
  have HBr := Lib.hid (hc.heap HBr.out (by have := HBR.out; omega))
  have HBl := Lib.hid (hc.heap HBl.out (by have := HBR.out; have := HK1.out; omega))
  have HN2 := Lib.hid (show w.heap.size < (w2.setCell ⟨w1.heap.size, 1, none⟩ (.int .i64 x1)).heap.size ∧ br < (w2.setCell ⟨w1.heap.size, 1, none⟩ (.int .i64 x1)).heap.size ∧ w1.heap.size < (w2.setCell ⟨w1.heap.size, 1, none⟩ (.int .i64 x1)).heap.size from ⟨HNr.out, Nat.lt_of_lt_of_le HBR.out HC.out.size, HNl.out⟩)
  have HC := Lib.hid (HC.out.trans hc (fun _ _ e => e))
  have HS := Lib.hid hs
  have HNr := Lib.hid (lt_of_block HBr.out)
  have HNl := Lib.hid (lt_of_block HBl.out)
  clear hp hs hc he hv
  have f2 := free_at HBl.out 2
  have c_2 : w3.cell? ⟨w1.heap.size, 2, none⟩ = some (.string ⟨#[]⟩) := (cell_at HBl.out 2).trans rfl
  have hset : Chg (fun k => k = w1.heap.size) w3 (w3.setCell ⟨w1.heap.size, 2, none⟩ (.string x2)) := ((Chg.refl (fun k => k = w1.heap.size) w3).setCell (p := ⟨w1.heap.size, 2, none⟩) (fun _ => rfl) (.string x2))
  have HBr := Lib.hid (hset.heap HBr.out (by have := HK1.out; omega))
  have HBl := Lib.hid (show (w3.setCell ⟨w1.heap.size, 2, none⟩ (.string x2)).heap[w1.heap.size]? = some (.cells #[.int .i64 x0, .int .i64 x1, .string x2, .slice none 0 0] 132 (0, 0)) from set_at HBl.out 2 (.string x2))
  have HKc := Lib.hid (hset.heap HKc.out (by have := HKL.out; have := HK1.out; omega))
  have HS := Lib.hid (HS.out.keep hset (fun q => by have := HBR.out; have := HK1.out; omega) (fun k q => by have := HW0.out; have := HK1.out; omega))
  have HC := Lib.hid (HC.out.trans hset (fun i hi q => by have := HK1.out; omega))
  clear hset
  have HNr := Lib.hid (lt_of_block HBr.out); have HNl := Lib.hid (lt_of_block HBl.out)
  have k0 : (w3.setCell ⟨w1.heap.size, 2, none⟩ (.string x2)).cell? ⟨kc, 0, none⟩ = some (.pointer (some ⟨br, 0, none⟩)) := (cell_at HKc.out 0).trans rfl
  go_wp2_with fail
  clear f2 c_2
  refine (takesEx_any W0 _ br dp _ _ e_kids o_kids l3 HS.out).mono ?_
  intro e w4 he
  rcases he.split with ⟨x3, l4, v3, hp, rfl, hv, hs, hc⟩ | ⟨hp, u, rfl, hc⟩
  case inr =>
    have HT := Lib.hid (show exprI d l0 = none by rw [HT.out, hp]; rfl)
    have HC := Lib.hid (HC.out.trans hc (fun _ _ e => e))
    clear hp hc he
    go_wp2_with fail
    refine ⟨rfl, ?_⟩
    rw [HT.out]
    exact ⟨_, rfl, HC.out⟩
  have HT := Lib.hid (show exprI d l0 = some ((Ex.mk x0 x1 x2 x3), l4) by rw [HT.out, hp]; rfl)
  obtain ⟨A3, c3, rfl, y⟩ := ValL.slEx hv
  have HY3 := Lib.hid y; clear y
  have HKc := Lib.hid (hc.heap HKc.out HKN.out)
  clear k0
  have HBr := Lib.hid (hc.heap HBr.out (by have := HBR.out; omega))
  have HBl := Lib.hid (hc.heap HBl.out (by have := HBR.out; have := HK1.out; omega))
  have HN3 := Lib.hid (show w.heap.size < (w3.setCell ⟨w1.heap.size, 2, none⟩ (.string x2)).heap.size ∧ br < (w3.setCell ⟨w1.heap.size, 2, none⟩ (.string x2)).heap.size ∧ w1.heap.size < (w3.setCell ⟨w1.heap.size, 2, none⟩ (.string x2)).heap.size from ⟨HNr.out, Nat.lt_of_lt_of_le HBR.out HC.out.size, HNl.out⟩)
  have HC := Lib.hid (HC.out.trans hc (fun _ _ e => e))
  have HS := Lib.hid hs
  have HNr := Lib.hid (lt_of_block HBr.out)
  have HNl := Lib.hid (lt_of_block HBl.out)
  clear hp hs hc he hv
  have f3 := free_at HBl.out 3
  have c_3 : w4.cell? ⟨w1.heap.size, 3, none⟩ = some (.slice none 0 0) := (cell_at HBl.out 3).trans rfl
  have hset : Chg (fun k => k = w1.heap.size) w4 (w4.setCell ⟨w1.heap.size, 3, none⟩ (.slice A3 x3.length c3)) := ((Chg.refl (fun k => k = w1.heap.size) w4).setCell (p := ⟨w1.heap.size, 3, none⟩) (fun _ => rfl) (.slice A3 x3.length c3))
  have HBr := Lib.hid (hset.heap HBr.out (by have := HK1.out; omega))
  have HBl := Lib.hid (show (w4.setCell ⟨w1.heap.size, 3, none⟩ (.slice A3 x3.length c3)).heap[w1.heap.size]? = some (.cells #[.int .i64 x0, .int .i64 x1, .string x2, .slice A3 x3.length c3] 132 (0, 0)) from set_at HBl.out 3 (.slice A3 x3.length c3))
  have HKc := Lib.hid (hset.heap HKc.out (by have := HKL.out; have := HK1.out; omega))
  have HS := Lib.hid (HS.out.keep hset (fun q => by have := HBR.out; have := HK1.out; omega) (fun k q => by have := HW0.out; have := HK1.out; omega))
  have HC := Lib.hid (HC.out.trans hset (fun i hi q => by have := HK1.out; omega))
  have HY3 := Lib.hid (HY3.out.later hset (fun k q => by have := HN3.out; omega))
  clear hset
  have HNr := Lib.hid (lt_of_block HBr.out); have HNl := Lib.hid (lt_of_block HBl.out)
  have g_0 : (w4.setCell ⟨w1.heap.size, 3, none⟩ (.slice A3 x3.length c3)).cell? ⟨w1.heap.size, 0, none⟩ = some (.int .i64 x0) := (cell_at HBl.out 0).trans rfl
  have g_1 : (w4.setCell ⟨w1.heap.size, 3, none⟩ (.slice A3 x3.length c3)).cell? ⟨w1.heap.size, 1, none⟩ = some (.int .i64 x1) := (cell_at HBl.out 1).trans rfl
  have g_2 : (w4.setCell ⟨w1.heap.size, 3, none⟩ (.slice A3 x3.length c3)).cell? ⟨w1.heap.size, 2, none⟩ = some (.string x2) := (cell_at HBl.out 2).trans rfl
  have g_3 : (w4.setCell ⟨w1.heap.size, 3, none⟩ (.slice A3 x3.length c3)).cell? ⟨w1.heap.size, 3, none⟩ = some (.slice A3 x3.length c3) := (cell_at HBl.out 3).trans rfl
  have r0 := free_at HBr.out 0
  have s_0 : (w4.setCell ⟨w1.heap.size, 3, none⟩ (.slice A3 x3.length c3)).cell? ⟨w.heap.size, 0, none⟩ = some (.int .i64 0) := (cell_at HBr.out 0).trans rfl
  have r1 := free_at HBr.out 1
  have s_1 : (w4.setCell ⟨w1.heap.size, 3, none⟩ (.slice A3 x3.length c3)).cell? ⟨w.heap.size, 1, none⟩ = some (.int .i64 0) := (cell_at HBr.out 1).trans rfl
  have r2 := free_at HBr.out 2
  have s_2 : (w4.setCell ⟨w1.heap.size, 3, none⟩ (.slice A3 x3.length c3)).cell? ⟨w.heap.size, 2, none⟩ = some (.string ⟨#[]⟩) := (cell_at HBr.out 2).trans rfl
  have r3 := free_at HBr.out 3
  have s_3 : (w4.setCell ⟨w1.heap.size, 3, none⟩ (.slice A3 x3.length c3)).cell? ⟨w.heap.size, 3, none⟩ = some (.slice none 0 0) := (cell_at HBr.out 3).trans rfl
  have hset : Chg (fun k => k = w.heap.size) (w4.setCell ⟨w1.heap.size, 3, none⟩ (.slice A3 x3.length c3)) (((((w4.setCell ⟨w1.heap.size, 3, none⟩ (.slice A3 x3.length c3)).setCell ⟨w.heap.size, 0, none⟩ (.int .i64 x0)).setCell ⟨w.heap.size, 1, none⟩ (.int .i64 x1)).setCell ⟨w.heap.size, 2, none⟩ (.string x2)).setCell ⟨w.heap.size, 3, none⟩ (.slice A3 x3.length c3)) := (((((Chg.refl (fun k => k = w.heap.size) (w4.setCell ⟨w1.heap.size, 3, none⟩ (.slice A3 x3.length c3))).setCell (p := ⟨w.heap.size, 0, none⟩) (fun _ => rfl) (.int .i64 x0)).setCell (p := ⟨w.heap.size, 1, none⟩) (fun _ => rfl) (.int .i64 x1)).setCell (p := ⟨w.heap.size, 2, none⟩) (fun _ => rfl) (.string x2)).setCell (p := ⟨w.heap.size, 3, none⟩) (fun _ => rfl) (.slice A3 x3.length c3))
  have HBr := Lib.hid (show ((w4.setCell ⟨w1.heap.size, 3, none⟩ (.slice A3 x3.length c3)).setCell ⟨w.heap.size, 0, none⟩ (.int .i64 x0)).heap[w.heap.size]? = some (.cells #[.int .i64 x0, .int .i64 0, .string ⟨#[]⟩, .slice none 0 0] 132 (0, 0)) from set_at HBr.out 0 (.int .i64 x0))
  have HBr := Lib.hid (show (((w4.setCell ⟨w1.heap.size, 3, none⟩ (.slice A3 x3.length c3)).setCell ⟨w.heap.size, 0, none⟩ (.int .i64 x0)).setCell ⟨w.heap.size, 1, none⟩ (.int .i64 x1)).heap[w.heap.size]? = some (.cells #[.int .i64 x0, .int .i64 x1, .string ⟨#[]⟩, .slice none 0 0] 132 (0, 0)) from set_at HBr.out 1 (.int .i64 x1))
  have HBr := Lib.hid (show ((((w4.setCell ⟨w1.heap.size, 3, none⟩ (.slice A3 x3.length c3)).setCell ⟨w.heap.size, 0, none⟩ (.int .i64 x0)).setCell ⟨w.heap.size, 1, none⟩ (.int .i64 x1)).setCell ⟨w.heap.size, 2, none⟩ (.string x2)).heap[w.heap.size]? = some (.cells #[.int .i64 x0, .int .i64 x1, .string x2, .slice none 0 0] 132 (0, 0)) from set_at HBr.out 2 (.string x2))
  have HBr := Lib.hid (show (((((w4.setCell ⟨w1.heap.size, 3, none⟩ (.slice A3 x3.length c3)).setCell ⟨w.heap.size, 0, none⟩ (.int .i64 x0)).setCell ⟨w.heap.size, 1, none⟩ (.int .i64 x1)).setCell ⟨w.heap.size, 2, none⟩ (.string x2)).setCell ⟨w.heap.size, 3, none⟩ (.slice A3 x3.length c3)).heap[w.heap.size]? = some (.cells #[.int .i64 x0, .int .i64 x1, .string x2, .slice A3 x3.length c3] 132 (0, 0)) from set_at HBr.out 3 (.slice A3 x3.length c3))
  have HKc := Lib.hid (hset.heap HKc.out (by have := HKL.out; omega))
  have HS := Lib.hid (HS.out.keep hset (fun q => by have := HBR.out; omega) (fun k q => by have := HW0.out; omega))
  have HC := Lib.hid (HC.out.trans hset (fun i hi q => by omega))
  have HY3 := Lib.hid (HY3.out.later hset (fun k q => by have := HN3.out; omega))
  clear hset
  have hd : ∀ (i : Nat) (v : Value), ([.int .i64 x0, .int .i64 x1, .string x2, .slice A3 x3.length c3] : List Value)[i]? = some v → (((((w4.setCell ⟨w1.heap.size, 3, none⟩ (.slice A3 x3.length c3)).setCell ⟨w.heap.size, 0, none⟩ (.int .i64 x0)).setCell ⟨w.heap.size, 1, none⟩ (.int .i64 x1)).setCell ⟨w.heap.size, 2, none⟩ (.string x2)).setCell ⟨w.heap.size, 3, none⟩ (.slice A3 x3.length c3)).cell? ⟨w.heap.size, i, none⟩ = some v := fun i v q => by rw [cell_at HBr.out]; simpa using q
  have HD := Lib.hid hd; clear hd
  go_wp2_with fail
  refine bodyPost_ret (v := .agg #[.int .i64 x0, .int .i64 x1, .string x2, .slice A3 x3.length c3]) (by have d0 := HD.out 0 _ rfl; have d1 := HD.out 1 _ rfl; have d2 := HD.out 2 _ rfl; have d3 := HD.out 3 _ rfl; simp [results, Try.results110, go_sem, d0, d1, d2, d3]) rfl ?_
  rw [HT.out]
  exact ⟨_, rfl, ⟨_, rfl, Ex.shut (w := NewW w.heap.size none _) (t := (Ex.mk x0 x1 x2 x3)) HX0.out HX1.out HX2.out (HY3.out.low (by have := HN3.out; omega))⟩, HS.out, HC.out⟩
set_option maxRecDepth 100000 in
set_option maxHeartbeats 3200000 in
theorem stat1_any (W0 w : World) (br kc : Nat) (dp : Int) (d : Nat) (e_exprs : Enters 102) (o_exprs : RdOne W0 br dp (exprP d) Ex.d 102) (e_body : Enters 76) (o_body : RdOne W0 br dp (statP d) St.d 76) (e_els : Enters 76) (o_els : RdOne W0 br dp (statP d) St.d 76) (l0 : List UInt8) (h : RdS W0 w br l0 dp) (hk : w.heap[kc]? = some (.cells #[.pointer (some ⟨br, 0, none⟩)] 77 (0, 0))) (hkb : kc ≠ br) : Calls Try.prog 100 #[.pointer (some ⟨kc, 0, none⟩)] w (RdP W0 br dp w (statI d l0) (ValR w St.d)) := by
  have HKN := Lib.hid hkb; have HKL := Lib.hid (lt_of_block hk)
  have hA : Chg (fun _ => False) w (w.alloc (.cells #[.int .i64 0, .int .i64 0, .slice none 0 0, .slice none 0 0, .slice none 0 0] 101)) := (Chg.refl _ _).alloc _
  have HS := Lib.hid (h.keep hA id (fun _ q => q.elim))
  have HBr := Lib.hid (show (w.alloc (.cells #[.int .i64 0, .int .i64 0, .slice none 0 0, .slice none 0 0, .slice none 0 0] 101)).heap[w.heap.size]? = some (.cells #[.int .i64 0, .int .i64 0, .slice none 0 0, .slice none 0 0, .slice none 0 0] 101 (0, 0)) from alloc_at w _)
  have HKc := Lib.hid (hA.heap hk id)
  have k0 : (w.alloc (.cells #[.int .i64 0, .int .i64 0, .slice none 0 0, .slice none 0 0, .slice none 0 0] 101)).cell? ⟨kc, 0, none⟩ = some (.pointer (some ⟨br, 0, none⟩)) := (cell_at HKc.out 0).trans rfl
  have HBR := Lib.hid h.lt
  have HW0 := Lib.hid (show W0.heap.size ≤ w.heap.size from Nat.le_trans h.br_ge (Nat.le_of_lt h.lt))
  have HC := Lib.hid (hA.mono (S' := fun k => k = br) (fun _ _ q => q.elim))
  have HK := Lib.hid (show w.heap.size < (w.alloc (.cells #[.int .i64 0, .int .i64 0, .slice none 0 0, .slice none 0 0, .slice none 0 0] 101)).heap.size by simp)
  clear h hA hk hkb
  go_enter Try.func100, Try.ntmps100
  go_wp2_with fail
  refine (rdnum_any W0 _ br l0 dp HS.out).mono ?_
  intro e w1 he
  rcases he.split with ⟨x0, l1, v0, hp, rfl, hv, hs, hc⟩ | ⟨hp, u, rfl, hc⟩
  case inr =>
    have HT := Lib.hid (show statI d l0 = none by rw [show statI d l0 = bindP (numP l0) (fun x0 l1 => bindP (numP l1) fun x1 l2 => bindP (takesP (exprP d) l2) fun x2 l3 => bindP (takesP (statP d) l3) fun x3 l4 => bindP (takesP (statP d) l4) fun x4 l5 => some ((St.mk x0 x1 x2 x3 x4), l5)) from rfl, hp]; rfl)
    have HC := Lib.hid (HC.out.trans hc (fun _ _ e => e))
    clear hp hc he
    go_wp2_with fail
    refine ⟨rfl, ?_⟩
    rw [HT.out]
    exact ⟨_, rfl, HC.out⟩
  have HT := Lib.hid (show statI d l0 = bindP (numP l1) fun x1 l2 => bindP (takesP (exprP d) l2) fun x2 l3 => bindP (takesP (statP d) l3) fun x3 l4 => bindP (takesP (statP d) l4) fun x4 l5 => some ((St.mk x0 x1 x2 x3 x4), l5) by rw [show statI d l0 = bindP (numP l0) (fun x0 l1 => bindP (numP l1) fun x1 l2 => bindP (takesP (exprP d) l2) fun x2 l3 => bindP (takesP (statP d) l3) fun x3 l4 => bindP (takesP (statP d) l4) fun x4 l5 => some ((St.mk x0 x1 x2 x3 x4), l5)) from rfl, hp]; rfl)
  have HX0 := Lib.hid (numP_in hp)
  obtain rfl := (show v0 = .int .i64 x0 from hv)
  have HKc := Lib.hid (hc.heap HKc.out HKN.out)
  clear k0
  have HBr := Lib.hid (hc.heap HBr.out (by have := HBR.out; omega))
  have HN0 := Lib.hid (show w.heap.size < (w.alloc (.cells #[.int .i64 0, .int .i64 0, .slice none 0 0, .slice none 0 0, .slice none 0 0] 101)).heap.size ∧ br < (w.alloc (.cells #[.int .i64 0, .int .i64 0, .slice none 0 0, .slice none 0 0, .slice none 0 0] 101)).heap.size from ⟨HK.out, Nat.lt_of_lt_of_le HBR.out HC.out.size⟩)
  have HC := Lib.hid (HC.out.trans hc (fun _ _ e => e))
  have HS := Lib.hid hs
  have HNr := Lib.hid (lt_of_block HBr.out)
  clear hp hs hc he hv
  have HK1 := Lib.hid (show w.heap.size < w1.heap.size from HNr.out)
  have hA : Chg (fun _ => False) w1 (w1.alloc (.cells #[.int .i64 x0, .int .i64 0, .slice none 0 0, .slice none 0 0, .slice none 0 0] 101)) := (Chg.refl _ _).alloc _
  have HBl := Lib.hid (show (w1.alloc (.cells #[.int .i64 x0, .int .i64 0, .slice none 0 0, .slice none 0 0, .slice none 0 0] 101)).heap[w1.heap.size]? = some (.cells #[.int .i64 x0, .int .i64 0, .slice none 0 0, .slice none 0 0, .slice none 0 0] 101 (0, 0)) from alloc_at w1 _)
  have HKc := Lib.hid (hA.heap HKc.out id)
  have HBr := Lib.hid (hA.heap HBr.out id)
  have HS := Lib.hid (HS.out.keep hA id (fun _ q => q.elim))
  have HC := Lib.hid (HC.out.trans hA (fun _ _ q => q.elim))
  clear hA
  have HNr := Lib.hid (lt_of_block HBr.out); have HNl := Lib.hid (lt_of_block HBl.out)
  have k0 : (w1.alloc (.cells #[.int .i64 x0, .int .i64 0, .slice none 0 0, .slice none 0 0, .slice none 0 0] 101)).cell? ⟨kc, 0, none⟩ = some (.pointer (some ⟨br, 0, none⟩)) := (cell_at HKc.out 0).trans rfl
  go_wp2_with fail
  refine (rdnum_any W0 _ br l1 dp HS.out).mono ?_
  intro e w2 he
  rcases he.split with ⟨x1, l2, v1, hp, rfl, hv, hs, hc⟩ | ⟨hp, u, rfl, hc⟩
  case inr =>
    have HT := Lib.hid (show statI d l0 = none by rw [HT.out, hp]; rfl)
    have HC := Lib.hid (HC.out.trans hc (fun _ _ e => e))
    clear hp hc he
    go_wp2_with fail
    refine ⟨rfl, ?_⟩
    rw [HT.out]
    exact ⟨_, rfl, HC.out⟩
  have HT := Lib.hid (show statI d l0 = bindP (takesP (exprP d) l2) fun x2 l3 => bindP (takesP (statP d) l3) fun x3 l4 => bindP (takesP (statP d) l4) fun x4 l5 => some ((St.mk x0 x1 x2 x3 x4), l5) by rw [HT.out, hp]; rfl)
  have HX1 := Lib.hid (numP_in hp)
  obtain rfl := (show v1 = .int .i64 x1 from hv)
  have HKc := Lib.hid (hc.heap HKc.out HKN.out)
  clear k0
  have HBr := Lib.hid (hc.heap HBr.out (by have := HBR.out; omega))
  have HBl := Lib.hid (hc.heap HBl.out (by have := HBR.out; have := HK1.out; omega))
  have HN1 := Lib.hid (show w.heap.size < (w1.alloc (.cells #[.int .i64 x0, .int .i64 0, .slice none 0 0, .slice none 0 0, .slice none 0 0] 101)).heap.size ∧ br < (w1.alloc (.cells #[.int .i64 x0, .int .i64 0, .slice none 0 0, .slice none 0 0, .slice none 0 0] 101)).heap.size ∧ w1.heap.size < (w1.alloc (.cells #[.int .i64 x0, .int .i64 0, .slice none 0 0, .slice none 0 0, .slice none 0 0] 101)).heap.size from ⟨HNr.out, Nat.lt_of_lt_of_le HBR.out HC.out.size, HNl.out⟩)
  have HC := Lib.hid (HC.out.trans hc (fun _ _ e => e))
  have HS := Lib.hid hs
  have HNr := Lib.hid (lt_of_block HBr.out)
  have HNl := Lib.hid (lt_of_block HBl.out)
  clear hp hs hc he hv
  have f1 := free_at HBl.out 1
  have c_1 : w2.cell? ⟨w1.heap.size, 1, none⟩ = some (.int .i64 0) := (cell_at HBl.out 1).trans rfl
  have hset : Chg (fun k => k = w1.heap.size) w2 (w2.setCell ⟨w1.heap.size, 1, none⟩ (.int .i64 x1)) := ((Chg.refl (fun k => k = w1.heap.size) w2).setCell (p := ⟨w1.heap.size, 1, none⟩) (fun _ => rfl) (.int .i64 x1))
  have HBr := Lib.hid (hset.heap HBr.out (by have := HK1.out; omega))
  have HBl := Lib.hid (show (w2.setCell ⟨w1.heap.size, 1, none⟩ (.int .i64 x1)).heap[w1.heap.size]? = some (.cells #[.int .i64 x0, .int .i64 x1, .slice none 0 0, .slice none 0 0, .slice none 0 0] 101 (0, 0)) from set_at HBl.out 1 (.int .i64 x1))
  have HKc := Lib.hid (hset.heap HKc.out (by have := HKL.out; have := HK1.out; omega))
  have HS := Lib.hid (HS.out.keep hset (fun q => by have := HBR.out; have := HK1.out; omega) (fun k q => by have := HW0.out; have := HK1.out; omega))
  have HC := Lib.hid (HC.out.trans hset (fun i hi q => by have := HK1.out; omega))
  clear hset
  have HNr := Lib.hid (lt_of_block HBr.out); have HNl := Lib.hid (lt_of_block HBl.out)
  have k0 : (w2.setCell ⟨w1.heap.size, 1, none⟩ (.int .i64 x1)).cell? ⟨kc, 0, none⟩ = some (.pointer (some ⟨br, 0, none⟩)) := (cell_at HKc.out 0).trans rfl
  go_wp2_with fail
  clear f1 c_1
  refine (takesEx_any W0 _ br dp _ _ e_exprs o_exprs l2 HS.out).mono ?_
  intro e w3 he
  rcases he.split with ⟨x2, l3, v2, hp, rfl, hv, hs, hc⟩ | ⟨hp, u, rfl, hc⟩
  case inr =>
    have HT := Lib.hid (show statI d l0 = none by rw [HT.out, hp]; rfl)
    have HC := Lib.hid (HC.out.trans hc (fun _ _ e => e))
    clear hp hc he
    go_wp2_with fail
    refine ⟨rfl, ?_⟩
    rw [HT.out]
    exact ⟨_, rfl, HC.out⟩
  have HT := Lib.hid (show statI d l0 = bindP (takesP (statP d) l3) fun x3 l4 => bindP (takesP (statP d) l4) fun x4 l5 => some ((St.mk x0 x1 x2 x3 x4), l5) by rw [HT.out, hp]; rfl)
  obtain ⟨A2, c2, rfl, y⟩ := ValL.slEx hv
  have HY2 := Lib.hid y; clear y
  have HKc := Lib.hid (hc.heap HKc.out HKN.out)
  clear k0
  have HBr := Lib.hid (hc.heap HBr.out (by have := HBR.out; omega))
  have HBl := Lib.hid (hc.heap HBl.out (by have := HBR.out; have := HK1.out; omega))
  have HN2 := Lib.hid (show w.heap.size < (w2.setCell ⟨w1.heap.size, 1, none⟩ (.int .i64 x1)).heap.size ∧ br < (w2.setCell ⟨w1.heap.size, 1, none⟩ (.int .i64 x1)).heap.size ∧ w1.heap.size < (w2.setCell ⟨w1.heap.size, 1, none⟩ (.int .i64 x1)).heap.size from ⟨HNr.out, Nat.lt_of_lt_of_le HBR.out HC.out.size, HNl.out⟩)
  have HC := Lib.hid (HC.out.trans hc (fun _ _ e => e))
  have HS := Lib.hid hs
  have HNr := Lib.hid (lt_of_block HBr.out)
  have HNl := Lib.hid (lt_of_block HBl.out)
  clear hp hs hc he hv
  have f2 := free_at HBl.out 2
  have c_2 : w3.cell? ⟨w1.heap.size, 2, none⟩ = some (.slice none 0 0) := (cell_at HBl.out 2).trans rfl
  have hset : Chg (fun k => k = w1.heap.size) w3 (w3.setCell ⟨w1.heap.size, 2, none⟩ (.slice A2 x2.length c2)) := ((Chg.refl (fun k => k = w1.heap.size) w3).setCell (p := ⟨w1.heap.size, 2, none⟩) (fun _ => rfl) (.slice A2 x2.length c2))
  have HBr := Lib.hid (hset.heap HBr.out (by have := HK1.out; omega))
  have HBl := Lib.hid (show (w3.setCell ⟨w1.heap.size, 2, none⟩ (.slice A2 x2.length c2)).heap[w1.heap.size]? = some (.cells #[.int .i64 x0, .int .i64 x1, .slice A2 x2.length c2, .slice none 0 0, .slice none 0 0] 101 (0, 0)) from set_at HBl.out 2 (.slice A2 x2.length c2))
  have HKc := Lib.hid (hset.heap HKc.out (by have := HKL.out; have := HK1.out; omega))
  have HS := Lib.hid (HS.out.keep hset (fun q => by have := HBR.out; have := HK1.out; omega) (fun k q => by have := HW0.out; have := HK1.out; omega))
  have HC := Lib.hid (HC.out.trans hset (fun i hi q => by have := HK1.out; omega))
  have HY2 := Lib.hid (HY2.out.later hset (fun k q => by have := HN2.out; omega))
  clear hset
  have HNr := Lib.hid (lt_of_block HBr.out); have HNl := Lib.hid (lt_of_block HBl.out)
  have k0 : (w3.setCell ⟨w1.heap.size, 2, none⟩ (.slice A2 x2.length c2)).cell? ⟨kc, 0, none⟩ = some (.pointer (some ⟨br, 0, none⟩)) := (cell_at HKc.out 0).trans rfl
  go_wp2_with fail
  clear f2 c_2
  refine (takesSt_any W0 _ br dp _ _ e_body o_body l3 HS.out).mono ?_
  intro e w4 he
  rcases he.split with ⟨x3, l4, v3, hp, rfl, hv, hs, hc⟩ | ⟨hp, u, rfl, hc⟩
  case inr =>
    have HT := Lib.hid (show statI d l0 = none by rw [HT.out, hp]; rfl)
    have HC := Lib.hid (HC.out.trans hc (fun _ _ e => e))
    clear hp hc he
    go_wp2_with fail
    refine ⟨rfl, ?_⟩
    rw [HT.out]
    exact ⟨_, rfl, HC.out⟩
  have HT := Lib.hid (show statI d l0 = bindP (takesP (statP d) l4) fun x4 l5 => some ((St.mk x0 x1 x2 x3 x4), l5) by rw [HT.out, hp]; rfl)
  obtain ⟨A3, c3, rfl, y⟩ := ValL.slSt hv
  have HY3 := Lib.hid y; clear y
  have HKc := Lib.hid (hc.heap HKc.out HKN.out)
  clear k0
  have HBr := Lib.hid (hc.heap HBr.out (by have := HBR.out; omega))
  have HBl := Lib.hid (hc.heap HBl.out (by have := HBR.out; have := HK1.out; omega))
  have HN3 := Lib.hid (show w.heap.size < (w3.setCell ⟨w1.heap.size, 2, none⟩ (.slice A2 x2.length c2)).heap.size ∧ br < (w3.setCell ⟨w1.heap.size, 2, none⟩ (.slice A2 x2.length c2)).heap.size ∧ w1.heap.size < (w3.setCell ⟨w1.heap.size, 2, none⟩ (.slice A2 x2.length c2)).heap.size from ⟨HNr.out, Nat.lt_of_lt_of_le HBR.out HC.out.size, HNl.out⟩)
  have HY2 := Lib.hid (HY2.out.later hc (fun k q => by have := HN2.out; omega))
  have HC := Lib.hid (HC.out.trans hc (fun _ _ e => e))
  have HS := Lib.hid hs
  have HNr := Lib.hid (lt_of_block HBr.out)
  have HNl := Lib.hid (lt_of_block HBl.out)
  clear hp hs hc he hv
  have f3 := free_at HBl.out 3
  have c_3 : w4.cell? ⟨w1.heap.size, 3, none⟩ = some (.slice none 0 0) := (cell_at HBl.out 3).trans rfl
  have hset : Chg (fun k => k = w1.heap.size) w4 (w4.setCell ⟨w1.heap.size, 3, none⟩ (.slice A3 x3.length c3)) := ((Chg.refl (fun k => k = w1.heap.size) w4).setCell (p := ⟨w1.heap.size, 3, none⟩) (fun _ => rfl) (.slice A3 x3.length c3))
  have HBr := Lib.hid (hset.heap HBr.out (by have := HK1.out; omega))
  have HBl := Lib.hid (show (w4.setCell ⟨w1.heap.size, 3, none⟩ (.slice A3 x3.length c3)).heap[w1.heap.size]? = some (.cells #[.int .i64 x0, .int .i64 x1, .slice A2 x2.length c2, .slice A3 x3.length c3, .slice none 0 0] 101 (0, 0)) from set_at HBl.out 3 (.slice A3 x3.length c3))
  have HKc := Lib.hid (hset.heap HKc.out (by have := HKL.out; have := HK1.out; omega))
  have HS := Lib.hid (HS.out.keep hset (fun q => by have := HBR.out; have := HK1.out; omega) (fun k q => by have := HW0.out; have := HK1.out; omega))
  have HC := Lib.hid (HC.out.trans hset (fun i hi q => by have := HK1.out; omega))
  have HY2 := Lib.hid (HY2.out.later hset (fun k q => by have := HN2.out; omega))
  have HY3 := Lib.hid (HY3.out.later hset (fun k q => by have := HN3.out; omega))
  clear hset
  have HNr := Lib.hid (lt_of_block HBr.out); have HNl := Lib.hid (lt_of_block HBl.out)
  have k0 : (w4.setCell ⟨w1.heap.size, 3, none⟩ (.slice A3 x3.length c3)).cell? ⟨kc, 0, none⟩ = some (.pointer (some ⟨br, 0, none⟩)) := (cell_at HKc.out 0).trans rfl
  go_wp2_with fail
  clear f3 c_3
  refine (takesSt_any W0 _ br dp _ _ e_els o_els l4 HS.out).mono ?_
  intro e w5 he
  rcases he.split with ⟨x4, l5, v4, hp, rfl, hv, hs, hc⟩ | ⟨hp, u, rfl, hc⟩
  case inr =>
    have HT := Lib.hid (show statI d l0 = none by rw [HT.out, hp]; rfl)
    have HC := Lib.hid (HC.out.trans hc (fun _ _ e => e))
    clear hp hc he
    go_wp2_with fail
    refine ⟨rfl, ?_⟩
    rw [HT.out]
    exact ⟨_, rfl, HC.out⟩
  have HT := Lib.hid (show statI d l0 = some ((St.mk x0 x1 x2 x3 x4), l5) by rw [HT.out, hp]; rfl)
  obtain ⟨A4, c4, rfl, y⟩ := ValL.slSt hv
  have HY4 := Lib.hid y; clear y
  have HKc := Lib.hid (hc.heap HKc.out HKN.out)
  clear k0
  have HBr := Lib.hid (hc.heap HBr.out (by have := HBR.out; omega))
  have HBl := Lib.hid (hc.heap HBl.out (by have := HBR.out; have := HK1.out; omega))
  have HN4 := Lib.hid (show w.heap.size < (w4.setCell ⟨w1.heap.size, 3, none⟩ (.slice A3 x3.length c3)).heap.size ∧ br < (w4.setCell ⟨w1.heap.size, 3, none⟩ (.slice A3 x3.length c3)).heap.size ∧ w1.heap.size < (w4.setCell ⟨w1.heap.size, 3, none⟩ (.slice A3 x3.length c3)).heap.size from ⟨HNr.out, Nat.lt_of_lt_of_le HBR.out HC.out.size, HNl.out⟩)
  have HY2 := Lib.hid (HY2.out.later hc (fun k q => by have := HN2.out; omega))
  have HY3 := Lib.hid (HY3.out.later hc (fun k q => by have := HN3.out; omega))
  have HC := Lib.hid (HC.out.trans hc (fun _ _ e => e))
  have HS := Lib.hid hs
  have HNr := Lib.hid (lt_of_block HBr.out)
  have HNl := Lib.hid (lt_of_block HBl.out)
  clear hp hs hc he hv
  have f4 := free_at HBl.out 4
  have c_4 : w5.cell? ⟨w1.heap.size, 4, none⟩ = some (.slice none 0 0) := (cell_at HBl.out 4).trans rfl
  have hset : Chg (fun k => k = w1.heap.size) w5 (w5.setCell ⟨w1.heap.size, 4, none⟩ (.slice A4 x4.length c4)) := ((Chg.refl (fun k => k = w1.heap.size) w5).setCell (p := ⟨w1.heap.size, 4, none⟩) (fun _ => rfl) (.slice A4 x4.length c4))
  have HBr := Lib.hid (hset.heap HBr.out (by have := HK1.out; omega))
  have HBl := Lib.hid (show (w5.setCell ⟨w1.heap.size, 4, none⟩ (.slice A4 x4.length c4)).heap[w1.heap.size]? = some (.cells #[.int .i64 x0, .int .i64 x1, .slice A2 x2.length c2, .slice A3 x3.length c3, .slice A4 x4.length c4] 101 (0, 0)) from set_at HBl.out 4 (.slice A4 x4.length c4))
  have HKc := Lib.hid (hset.heap HKc.out (by have := HKL.out; have := HK1.out; omega))
  have HS := Lib.hid (HS.out.keep hset (fun q => by have := HBR.out; have := HK1.out; omega) (fun k q => by have := HW0.out; have := HK1.out; omega))
  have HC := Lib.hid (HC.out.trans hset (fun i hi q => by have := HK1.out; omega))
  have HY2 := Lib.hid (HY2.out.later hset (fun k q => by have := HN2.out; omega))
  have HY3 := Lib.hid (HY3.out.later hset (fun k q => by have := HN3.out; omega))
  have HY4 := Lib.hid (HY4.out.later hset (fun k q => by have := HN4.out; omega))
  clear hset
  have HNr := Lib.hid (lt_of_block HBr.out); have HNl := Lib.hid (lt_of_block HBl.out)
  have g_0 : (w5.setCell ⟨w1.heap.size, 4, none⟩ (.slice A4 x4.length c4)).cell? ⟨w1.heap.size, 0, none⟩ = some (.int .i64 x0) := (cell_at HBl.out 0).trans rfl
  have g_1 : (w5.setCell ⟨w1.heap.size, 4, none⟩ (.slice A4 x4.length c4)).cell? ⟨w1.heap.size, 1, none⟩ = some (.int .i64 x1) := (cell_at HBl.out 1).trans rfl
  have g_2 : (w5.setCell ⟨w1.heap.size, 4, none⟩ (.slice A4 x4.length c4)).cell? ⟨w1.heap.size, 2, none⟩ = some (.slice A2 x2.length c2) := (cell_at HBl.out 2).trans rfl
  have g_3 : (w5.setCell ⟨w1.heap.size, 4, none⟩ (.slice A4 x4.length c4)).cell? ⟨w1.heap.size, 3, none⟩ = some (.slice A3 x3.length c3) := (cell_at HBl.out 3).trans rfl
  have g_4 : (w5.setCell ⟨w1.heap.size, 4, none⟩ (.slice A4 x4.length c4)).cell? ⟨w1.heap.size, 4, none⟩ = some (.slice A4 x4.length c4) := (cell_at HBl.out 4).trans rfl
  have r0 := free_at HBr.out 0
  have s_0 : (w5.setCell ⟨w1.heap.size, 4, none⟩ (.slice A4 x4.length c4)).cell? ⟨w.heap.size, 0, none⟩ = some (.int .i64 0) := (cell_at HBr.out 0).trans rfl
  have r1 := free_at HBr.out 1
  have s_1 : (w5.setCell ⟨w1.heap.size, 4, none⟩ (.slice A4 x4.length c4)).cell? ⟨w.heap.size, 1, none⟩ = some (.int .i64 0) := (cell_at HBr.out 1).trans rfl
  have r2 := free_at HBr.out 2
  have s_2 : (w5.setCell ⟨w1.heap.size, 4, none⟩ (.slice A4 x4.length c4)).cell? ⟨w.heap.size, 2, none⟩ = some (.slice none 0 0) := (cell_at HBr.out 2).trans rfl
  have r3 := free_at HBr.out 3
  have s_3 : (w5.setCell ⟨w1.heap.size, 4, none⟩ (.slice A4 x4.length c4)).cell? ⟨w.heap.size, 3, none⟩ = some (.slice none 0 0) := (cell_at HBr.out 3).trans rfl
  have r4 := free_at HBr.out 4
  have s_4 : (w5.setCell ⟨w1.heap.size, 4, none⟩ (.slice A4 x4.length c4)).cell? ⟨w.heap.size, 4, none⟩ = some (.slice none 0 0) := (cell_at HBr.out 4).trans rfl
  have hset : Chg (fun k => k = w.heap.size) (w5.setCell ⟨w1.heap.size, 4, none⟩ (.slice A4 x4.length c4)) ((((((w5.setCell ⟨w1.heap.size, 4, none⟩ (.slice A4 x4.length c4)).setCell ⟨w.heap.size, 0, none⟩ (.int .i64 x0)).setCell ⟨w.heap.size, 1, none⟩ (.int .i64 x1)).setCell ⟨w.heap.size, 2, none⟩ (.slice A2 x2.length c2)).setCell ⟨w.heap.size, 3, none⟩ (.slice A3 x3.length c3)).setCell ⟨w.heap.size, 4, none⟩ (.slice A4 x4.length c4)) := ((((((Chg.refl (fun k => k = w.heap.size) (w5.setCell ⟨w1.heap.size, 4, none⟩ (.slice A4 x4.length c4))).setCell (p := ⟨w.heap.size, 0, none⟩) (fun _ => rfl) (.int .i64 x0)).setCell (p := ⟨w.heap.size, 1, none⟩) (fun _ => rfl) (.int .i64 x1)).setCell (p := ⟨w.heap.size, 2, none⟩) (fun _ => rfl) (.slice A2 x2.length c2)).setCell (p := ⟨w.heap.size, 3, none⟩) (fun _ => rfl) (.slice A3 x3.length c3)).setCell (p := ⟨w.heap.size, 4, none⟩) (fun _ => rfl) (.slice A4 x4.length c4))
  have HBr := Lib.hid (show ((w5.setCell ⟨w1.heap.size, 4, none⟩ (.slice A4 x4.length c4)).setCell ⟨w.heap.size, 0, none⟩ (.int .i64 x0)).heap[w.heap.size]? = some (.cells #[.int .i64 x0, .int .i64 0, .slice none 0 0, .slice none 0 0, .slice none 0 0] 101 (0, 0)) from set_at HBr.out 0 (.int .i64 x0))
  have HBr := Lib.hid (show (((w5.setCell ⟨w1.heap.size, 4, none⟩ (.slice A4 x4.length c4)).setCell ⟨w.heap.size, 0, none⟩ (.int .i64 x0)).setCell ⟨w.heap.size, 1, none⟩ (.int .i64 x1)).heap[w.heap.size]? = some (.cells #[.int .i64 x0, .int .i64 x1, .slice none 0 0, .slice none 0 0, .slice none 0 0] 101 (0, 0)) from set_at HBr.out 1 (.int .i64 x1))
  have HBr := Lib.hid (show ((((w5.setCell ⟨w1.heap.size, 4, none⟩ (.slice A4 x4.length c4)).setCell ⟨w.heap.size, 0, none⟩ (.int .i64 x0)).setCell ⟨w.heap.size, 1, none⟩ (.int .i64 x1)).setCell ⟨w.heap.size, 2, none⟩ (.slice A2 x2.length c2)).heap[w.heap.size]? = some (.cells #[.int .i64 x0, .int .i64 x1, .slice A2 x2.length c2, .slice none 0 0, .slice none 0 0] 101 (0, 0)) from set_at HBr.out 2 (.slice A2 x2.length c2))
  have HBr := Lib.hid (show (((((w5.setCell ⟨w1.heap.size, 4, none⟩ (.slice A4 x4.length c4)).setCell ⟨w.heap.size, 0, none⟩ (.int .i64 x0)).setCell ⟨w.heap.size, 1, none⟩ (.int .i64 x1)).setCell ⟨w.heap.size, 2, none⟩ (.slice A2 x2.length c2)).setCell ⟨w.heap.size, 3, none⟩ (.slice A3 x3.length c3)).heap[w.heap.size]? = some (.cells #[.int .i64 x0, .int .i64 x1, .slice A2 x2.length c2, .slice A3 x3.length c3, .slice none 0 0] 101 (0, 0)) from set_at HBr.out 3 (.slice A3 x3.length c3))
  have HBr := Lib.hid (show ((((((w5.setCell ⟨w1.heap.size, 4, none⟩ (.slice A4 x4.length c4)).setCell ⟨w.heap.size, 0, none⟩ (.int .i64 x0)).setCell ⟨w.heap.size, 1, none⟩ (.int .i64 x1)).setCell ⟨w.heap.size, 2, none⟩ (.slice A2 x2.length c2)).setCell ⟨w.heap.size, 3, none⟩ (.slice A3 x3.length c3)).setCell ⟨w.heap.size, 4, none⟩ (.slice A4 x4.length c4)).heap[w.heap.size]? = some (.cells #[.int .i64 x0, .int .i64 x1, .slice A2 x2.length c2, .slice A3 x3.length c3, .slice A4 x4.length c4] 101 (0, 0)) from set_at HBr.out 4 (.slice A4 x4.length c4))
  have HKc := Lib.hid (hset.heap HKc.out (by have := HKL.out; omega))
  have HS := Lib.hid (HS.out.keep hset (fun q => by have := HBR.out; omega) (fun k q => by have := HW0.out; omega))
  have HC := Lib.hid (HC.out.trans hset (fun i hi q => by omega))
  have HY2 := Lib.hid (HY2.out.later hset (fun k q => by have := HN2.out; omega))
  have HY3 := Lib.hid (HY3.out.later hset (fun k q => by have := HN3.out; omega))
  have HY4 := Lib.hid (HY4.out.later hset (fun k q => by have := HN4.out; omega))
  clear hset
  have hd : ∀ (i : Nat) (v : Value), ([.int .i64 x0, .int .i64 x1, .slice A2 x2.length c2, .slice A3 x3.length c3, .slice A4 x4.length c4] : List Value)[i]? = some v → ((((((w5.setCell ⟨w1.heap.size, 4, none⟩ (.slice A4 x4.length c4)).setCell ⟨w.heap.size, 0, none⟩ (.int .i64 x0)).setCell ⟨w.heap.size, 1, none⟩ (.int .i64 x1)).setCell ⟨w.heap.size, 2, none⟩ (.slice A2 x2.length c2)).setCell ⟨w.heap.size, 3, none⟩ (.slice A3 x3.length c3)).setCell ⟨w.heap.size, 4, none⟩ (.slice A4 x4.length c4)).cell? ⟨w.heap.size, i, none⟩ = some v := fun i v q => by rw [cell_at HBr.out]; simpa using q
  have HD := Lib.hid hd; clear hd
  go_wp2_with fail
  refine bodyPost_ret (v := .agg #[.int .i64 x0, .int .i64 x1, .slice A2 x2.length c2, .slice A3 x3.length c3, .slice A4 x4.length c4]) (by have d0 := HD.out 0 _ rfl; have d1 := HD.out 1 _ rfl; have d2 := HD.out 2 _ rfl; have d3 := HD.out 3 _ rfl; have d4 := HD.out 4 _ rfl; simp [results, Try.results100, go_sem, d0, d1, d2, d3, d4]) rfl ?_
  rw [HT.out]
  exact ⟨_, rfl, ⟨_, rfl, St.shut (w := NewW w.heap.size none _) (t := (St.mk x0 x1 x2 x3 x4)) HX0.out HX1.out (HY2.out.low (by have := HN2.out; omega)) (HY3.out.low (by have := HN3.out; omega)) (HY4.out.low (by have := HN4.out; omega))⟩, HS.out, HC.out⟩
end Go.Proofs.Ytghnaaahkbnhlaa
