/-
  The walk of export's reader over declarations. The conditions: as in XRdD.
-/
import Derived.Test.YtghnaaahkbnhlaaRdD
namespace Go.Proofs.Ytghnaaahkbnhlaa
open Go.RowKit Go.Lib
set_option linter.unusedVariables false
set_option linter.unusedSimpArgs false

set_option maxRecDepth 100000 in
set_option maxHeartbeats 3200000 in
theorem decl_any (W0 : World) (br : Nat) (dp : Int) (o_type : RdOne W0 br dp (typP 101) Ty.d 71) (e_fields : Enters 73) (o_fields : RdOne W0 br dp fieldP Fld.d 73) : RdOne W0 br dp declP Dcl.d 46 := by
  intro w l0 h
  have hA : Chg (fun _ => False) w (w.alloc (.cells #[.int .i64 0, .string ⟨#[]⟩, .string ⟨#[]⟩, .int .i64 0, .int .i64 0, .string ⟨#[]⟩, .string ⟨#[]⟩, .slice none 0 0, .slice none 0 0, .slice none 0 0] 47)) := (Chg.refl _ _).alloc _
  have HS := Lib.hid (h.keep hA id (fun _ q => q.elim))
  have HBr := Lib.hid (show (w.alloc (.cells #[.int .i64 0, .string ⟨#[]⟩, .string ⟨#[]⟩, .int .i64 0, .int .i64 0, .string ⟨#[]⟩, .string ⟨#[]⟩, .slice none 0 0, .slice none 0 0, .slice none 0 0] 47)).heap[w.heap.size]? = some (.cells #[.int .i64 0, .string ⟨#[]⟩, .string ⟨#[]⟩, .int .i64 0, .int .i64 0, .string ⟨#[]⟩, .string ⟨#[]⟩, .slice none 0 0, .slice none 0 0, .slice none 0 0] 47 (0, 0)) from alloc_at w _)
  have HBR := Lib.hid h.lt
  have HW0 := Lib.hid (show W0.heap.size ≤ w.heap.size from Nat.le_trans h.br_ge (Nat.le_of_lt h.lt))
  have HC := Lib.hid (hA.mono (S' := fun k => k = br) (fun _ _ q => q.elim))
  have HK := Lib.hid (show w.heap.size < (w.alloc (.cells #[.int .i64 0, .string ⟨#[]⟩, .string ⟨#[]⟩, .int .i64 0, .int .i64 0, .string ⟨#[]⟩, .string ⟨#[]⟩, .slice none 0 0, .slice none 0 0, .slice none 0 0] 47)).heap.size by simp)
  clear h hA
  go_enter Try.func46, Try.ntmps46
  go_wp2_with fail
  refine (rdnum_any W0 _ br l0 dp HS.out).mono ?_
  intro e w1 he
  rcases he.split with ⟨x0, l1, v0, hp, rfl, hv, hs, hc⟩ | ⟨hp, u, rfl, hc⟩
  case inr =>
    have HT := Lib.hid (show declP l0 = none by rw [show declP l0 = bindP (numP l0) (fun x0 l1 => bindP (textP l1) fun x1 l2 => bindP (textP l2) fun x2 l3 => bindP (numP l3) fun x3 l4 => bindP (typP 101 l4) fun x4 l5 => bindP (takesP fieldP l5) fun x5 l6 => some ((Dcl.mk x0 x1 x2 x3 x4 x5), l6)) from rfl, hp]; rfl)
    have HC := Lib.hid (HC.out.trans hc (fun _ _ e => e))
    clear hp hc he
    go_wp2_with fail
    refine ⟨rfl, ?_⟩
    rw [HT.out]
    exact ⟨_, rfl, HC.out⟩
  have HT := Lib.hid (show declP l0 = bindP (textP l1) fun x1 l2 => bindP (textP l2) fun x2 l3 => bindP (numP l3) fun x3 l4 => bindP (typP 101 l4) fun x4 l5 => bindP (takesP fieldP l5) fun x5 l6 => some ((Dcl.mk x0 x1 x2 x3 x4 x5), l6) by rw [show declP l0 = bindP (numP l0) (fun x0 l1 => bindP (textP l1) fun x1 l2 => bindP (textP l2) fun x2 l3 => bindP (numP l3) fun x3 l4 => bindP (typP 101 l4) fun x4 l5 => bindP (takesP fieldP l5) fun x5 l6 => some ((Dcl.mk x0 x1 x2 x3 x4 x5), l6)) from rfl, hp]; rfl)
  have HX0 := Lib.hid (numP_in hp)
  obtain rfl := (show v0 = .int .i64 x0 from hv)
  have HBr := Lib.hid (hc.heap HBr.out (by have := HBR.out; omega))
  have HN0 := Lib.hid (show w.heap.size < (w.alloc (.cells #[.int .i64 0, .string ⟨#[]⟩, .string ⟨#[]⟩, .int .i64 0, .int .i64 0, .string ⟨#[]⟩, .string ⟨#[]⟩, .slice none 0 0, .slice none 0 0, .slice none 0 0] 47)).heap.size ∧ br < (w.alloc (.cells #[.int .i64 0, .string ⟨#[]⟩, .string ⟨#[]⟩, .int .i64 0, .int .i64 0, .string ⟨#[]⟩, .string ⟨#[]⟩, .slice none 0 0, .slice none 0 0, .slice none 0 0] 47)).heap.size from ⟨HK.out, Nat.lt_of_lt_of_le HBR.out HC.out.size⟩)
  have HC := Lib.hid (HC.out.trans hc (fun _ _ e => e))
  have HS := Lib.hid hs
  have HNr := Lib.hid (lt_of_block HBr.out)
  clear hp hs hc he hv
  have HK1 := Lib.hid (show w.heap.size < w1.heap.size from HNr.out)
  have hA : Chg (fun _ => False) w1 (w1.alloc (.cells #[.int .i64 x0, .string ⟨#[]⟩, .string ⟨#[]⟩, .int .i64 0, .int .i64 0, .string ⟨#[]⟩, .string ⟨#[]⟩, .slice none 0 0, .slice none 0 0, .slice none 0 0] 47)) := (Chg.refl _ _).alloc _
  have HBl := Lib.hid (show (w1.alloc (.cells #[.int .i64 x0, .string ⟨#[]⟩, .string ⟨#[]⟩, .int .i64 0, .int .i64 0, .string ⟨#[]⟩, .string ⟨#[]⟩, .slice none 0 0, .slice none 0 0, .slice none 0 0] 47)).heap[w1.heap.size]? = some (.cells #[.int .i64 x0, .string ⟨#[]⟩, .string ⟨#[]⟩, .int .i64 0, .int .i64 0, .string ⟨#[]⟩, .string ⟨#[]⟩, .slice none 0 0, .slice none 0 0, .slice none 0 0] 47 (0, 0)) from alloc_at w1 _)
  have HBr := Lib.hid (hA.heap HBr.out id)
  have HS := Lib.hid (HS.out.keep hA id (fun _ q => q.elim))
  have HC := Lib.hid (HC.out.trans hA (fun _ _ q => q.elim))
  clear hA
  have HNr := Lib.hid (lt_of_block HBr.out); have HNl := Lib.hid (lt_of_block HBl.out)
  go_wp2_with fail
  refine (rdtext_any W0 _ br l1 dp HS.out).mono ?_
  intro e w2 he
  rcases he.split with ⟨x1, l2, v1, hp, rfl, hv, hs, hc⟩ | ⟨hp, u, rfl, hc⟩
  case inr =>
    have HT := Lib.hid (show declP l0 = none by rw [HT.out, hp]; rfl)
    have HC := Lib.hid (HC.out.trans hc (fun _ _ e => e))
    clear hp hc he
    go_wp2_with fail
    refine ⟨rfl, ?_⟩
    rw [HT.out]
    exact ⟨_, rfl, HC.out⟩
  have HT := Lib.hid (show declP l0 = bindP (textP l2) fun x2 l3 => bindP (numP l3) fun x3 l4 => bindP (typP 101 l4) fun x4 l5 => bindP (takesP fieldP l5) fun x5 l6 => some ((Dcl.mk x0 x1 x2 x3 x4 x5), l6) by rw [HT.out, hp]; rfl)
  have HX1 := Lib.hid (show x1.size ≤ Reach by have h1 := textP_size hp; have h2 := HS.out.len; unfold Reach; omega)
  obtain rfl := (show v1 = .string x1 from hv)
  have HBr := Lib.hid (hc.heap HBr.out (by have := HBR.out; omega))
  have HBl := Lib.hid (hc.heap HBl.out (by have := HBR.out; have := HK1.out; omega))
  have HN1 := Lib.hid (show w.heap.size < (w1.alloc (.cells #[.int .i64 x0, .string ⟨#[]⟩, .string ⟨#[]⟩, .int .i64 0, .int .i64 0, .string ⟨#[]⟩, .string ⟨#[]⟩, .slice none 0 0, .slice none 0 0, .slice none 0 0] 47)).heap.size ∧ br < (w1.alloc (.cells #[.int .i64 x0, .string ⟨#[]⟩, .string ⟨#[]⟩, .int .i64 0, .int .i64 0, .string ⟨#[]⟩, .string ⟨#[]⟩, .slice none 0 0, .slice none 0 0, .slice none 0 0] 47)).heap.size ∧ w1.heap.size < (w1.alloc (.cells #[.int .i64 x0, .string ⟨#[]⟩, .string ⟨#[]⟩, .int .i64 0, .int .i64 0, .string ⟨#[]⟩, .string ⟨#[]⟩, .slice none 0 0, .slice none 0 0, .slice none 0 0] 47)).heap.size from ⟨HNr.out, Nat.lt_of_lt_of_le HBR.out HC.out.size, HNl.out⟩)
  have HC := Lib.hid (HC.out.trans hc (fun _ _ e => e))
  have HS := Lib.hid hs
  have HNr := Lib.hid (lt_of_block HBr.out)
  have HNl := Lib.hid (lt_of_block HBl.out)
  clear hp hs hc he hv
  have f1 := free_at HBl.out 1
  have c_1 : w2.cell? ⟨w1.heap.size, 1, none⟩ = some (.string ⟨#[]⟩) := (cell_at HBl.out 1).trans rfl
  have hset : Chg (fun k => k = w1.heap.size) w2 (w2.setCell ⟨w1.heap.size, 1, none⟩ (.string x1)) := ((Chg.refl (fun k => k = w1.heap.size) w2).setCell (p := ⟨w1.heap.size, 1, none⟩) (fun _ => rfl) (.string x1))
  have HBr := Lib.hid (hset.heap HBr.out (by have := HK1.out; omega))
  have HBl := Lib.hid (show (w2.setCell ⟨w1.heap.size, 1, none⟩ (.string x1)).heap[w1.heap.size]? = some (.cells #[.int .i64 x0, .string x1, .string ⟨#[]⟩, .int .i64 0, .int .i64 0, .string ⟨#[]⟩, .string ⟨#[]⟩, .slice none 0 0, .slice none 0 0, .slice none 0 0] 47 (0, 0)) from set_at HBl.out 1 (.string x1))
  have HS := Lib.hid (HS.out.keep hset (fun q => by have := HBR.out; have := HK1.out; omega) (fun k q => by have := HW0.out; have := HK1.out; omega))
  have HC := Lib.hid (HC.out.trans hset (fun i hi q => by have := HK1.out; omega))
  clear hset
  have HNr := Lib.hid (lt_of_block HBr.out); have HNl := Lib.hid (lt_of_block HBl.out)
  go_wp2_with fail
  clear f1 c_1
  refine (rdtext_any W0 _ br l2 dp HS.out).mono ?_
  intro e w3 he
  rcases he.split with ⟨x2, l3, v2, hp, rfl, hv, hs, hc⟩ | ⟨hp, u, rfl, hc⟩
  case inr =>
    have HT := Lib.hid (show declP l0 = none by rw [HT.out, hp]; rfl)
    have HC := Lib.hid (HC.out.trans hc (fun _ _ e => e))
    clear hp hc he
    go_wp2_with fail
    refine ⟨rfl, ?_⟩
    rw [HT.out]
    exact ⟨_, rfl, HC.out⟩
  have HT := Lib.hid (show declP l0 = bindP (numP l3) fun x3 l4 => bindP (typP 101 l4) fun x4 l5 => bindP (takesP fieldP l5) fun x5 l6 => some ((Dcl.mk x0 x1 x2 x3 x4 x5), l6) by rw [HT.out, hp]; rfl)
  have HX2 := Lib.hid (show x2.size ≤ Reach by have h1 := textP_size hp; have h2 := HS.out.len; unfold Reach; omega)
  obtain rfl := (show v2 = .string x2 from hv)
  have HBr := Lib.hid (hc.heap HBr.out (by have := HBR.out; omega))
  have HBl := Lib.hid (hc.heap HBl.out (by have := HBR.out; have := HK1.out; omega))
  have HN2 := Lib.hid (show w.heap.size < (w2.setCell ⟨w1.heap.size, 1, none⟩ (.string x1)).heap.size ∧ br < (w2.setCell ⟨w1.heap.size, 1, none⟩ (.string x1)).heap.size ∧ w1.heap.size < (w2.setCell ⟨w1.heap.size, 1, none⟩ (.string x1)).heap.size from ⟨HNr.out, Nat.lt_of_lt_of_le HBR.out HC.out.size, HNl.out⟩)
  have HC := Lib.hid (HC.out.trans hc (fun _ _ e => e))
  have HS := Lib.hid hs
  have HNr := Lib.hid (lt_of_block HBr.out)
  have HNl := Lib.hid (lt_of_block HBl.out)
  clear hp hs hc he hv
  have f2 := free_at HBl.out 2
  have c_2 : w3.cell? ⟨w1.heap.size, 2, none⟩ = some (.string ⟨#[]⟩) := (cell_at HBl.out 2).trans rfl
  have hset : Chg (fun k => k = w1.heap.size) w3 (w3.setCell ⟨w1.heap.size, 2, none⟩ (.string x2)) := ((Chg.refl (fun k => k = w1.heap.size) w3).setCell (p := ⟨w1.heap.size, 2, none⟩) (fun _ => rfl) (.string x2))
  have HBr := Lib.hid (hset.heap HBr.out (by have := HK1.out; omega))
  have HBl := Lib.hid (show (w3.setCell ⟨w1.heap.size, 2, none⟩ (.string x2)).heap[w1.heap.size]? = some (.cells #[.int .i64 x0, .string x1, .string x2, .int .i64 0, .int .i64 0, .string ⟨#[]⟩, .string ⟨#[]⟩, .slice none 0 0, .slice none 0 0, .slice none 0 0] 47 (0, 0)) from set_at HBl.out 2 (.string x2))
  have HS := Lib.hid (HS.out.keep hset (fun q => by have := HBR.out; have := HK1.out; omega) (fun k q => by have := HW0.out; have := HK1.out; omega))
  have HC := Lib.hid (HC.out.trans hset (fun i hi q => by have := HK1.out; omega))
  clear hset
  have HNr := Lib.hid (lt_of_block HBr.out); have HNl := Lib.hid (lt_of_block HBl.out)
  go_wp2_with fail
  clear f2 c_2
  refine (rdnum_any W0 _ br l3 dp HS.out).mono ?_
  intro e w4 he
  rcases he.split with ⟨x3, l4, v3, hp, rfl, hv, hs, hc⟩ | ⟨hp, u, rfl, hc⟩
  case inr =>
    have HT := Lib.hid (show declP l0 = none by rw [HT.out, hp]; rfl)
    have HC := Lib.hid (HC.out.trans hc (fun _ _ e => e))
    clear hp hc he
    go_wp2_with fail
    refine ⟨rfl, ?_⟩
    rw [HT.out]
    exact ⟨_, rfl, HC.out⟩
  have HT := Lib.hid (show declP l0 = bindP (typP 101 l4) fun x4 l5 => bindP (takesP fieldP l5) fun x5 l6 => some ((Dcl.mk x0 x1 x2 x3 x4 x5), l6) by rw [HT.out, hp]; rfl)
  have HX3 := Lib.hid (numP_in hp)
  obtain rfl := (show v3 = .int .i64 x3 from hv)
  have HBr := Lib.hid (hc.heap HBr.out (by have := HBR.out; omega))
  have HBl := Lib.hid (hc.heap HBl.out (by have := HBR.out; have := HK1.out; omega))
  have HN3 := Lib.hid (show w.heap.size < (w3.setCell ⟨w1.heap.size, 2, none⟩ (.string x2)).heap.size ∧ br < (w3.setCell ⟨w1.heap.size, 2, none⟩ (.string x2)).heap.size ∧ w1.heap.size < (w3.setCell ⟨w1.heap.size, 2, none⟩ (.string x2)).heap.size from ⟨HNr.out, Nat.lt_of_lt_of_le HBR.out HC.out.size, HNl.out⟩)
  have HC := Lib.hid (HC.out.trans hc (fun _ _ e => e))
  have HS := Lib.hid hs
  have HNr := Lib.hid (lt_of_block HBr.out)
  have HNl := Lib.hid (lt_of_block HBl.out)
  clear hp hs hc he hv
  have f3 := free_at HBl.out 3
  have c_3 : w4.cell? ⟨w1.heap.size, 3, none⟩ = some (.int .i64 0) := (cell_at HBl.out 3).trans rfl
  have hset : Chg (fun k => k = w1.heap.size) w4 (w4.setCell ⟨w1.heap.size, 3, none⟩ (.int .i64 x3)) := ((Chg.refl (fun k => k = w1.heap.size) w4).setCell (p := ⟨w1.heap.size, 3, none⟩) (fun _ => rfl) (.int .i64 x3))
  have HBr := Lib.hid (hset.heap HBr.out (by have := HK1.out; omega))
  have HBl := Lib.hid (show (w4.setCell ⟨w1.heap.size, 3, none⟩ (.int .i64 x3)).heap[w1.heap.size]? = some (.cells #[.int .i64 x0, .string x1, .string x2, .int .i64 x3, .int .i64 0, .string ⟨#[]⟩, .string ⟨#[]⟩, .slice none 0 0, .slice none 0 0, .slice none 0 0] 47 (0, 0)) from set_at HBl.out 3 (.int .i64 x3))
  have HS := Lib.hid (HS.out.keep hset (fun q => by have := HBR.out; have := HK1.out; omega) (fun k q => by have := HW0.out; have := HK1.out; omega))
  have HC := Lib.hid (HC.out.trans hset (fun i hi q => by have := HK1.out; omega))
  clear hset
  have HNr := Lib.hid (lt_of_block HBr.out); have HNl := Lib.hid (lt_of_block HBl.out)
  go_wp2_with fail
  clear f3 c_3
  refine (o_type _ l4 HS.out).mono ?_
  intro e w5 he
  rcases he.split with ⟨x4, l5, v4, hp, rfl, hv, hs, hc⟩ | ⟨hp, u, rfl, hc⟩
  case inr =>
    have HT := Lib.hid (show declP l0 = none by rw [HT.out, hp]; rfl)
    have HC := Lib.hid (HC.out.trans hc (fun _ _ e => e))
    clear hp hc he
    go_wp2_with fail
    refine ⟨rfl, ?_⟩
    rw [HT.out]
    exact ⟨_, rfl, HC.out⟩
  have HT := Lib.hid (show declP l0 = bindP (takesP fieldP l5) fun x5 l6 => some ((Dcl.mk x0 x1 x2 x3 x4 x5), l6) by rw [HT.out, hp]; rfl)
  obtain ⟨vs4, rfl, hv⟩ := hv
  obtain ⟨A4a, c4a, A4b, c4b, rfl, y0, y1, y2, y3, y4⟩ := Ty.opn hv
  have HX4 := Lib.hid (And.intro y0 (And.intro y1 y2)); have HY4a := Lib.hid y3; have HY4b := Lib.hid y4
  clear y0 y1 y2 y3 y4
  have HBr := Lib.hid (hc.heap HBr.out (by have := HBR.out; omega))
  have HBl := Lib.hid (hc.heap HBl.out (by have := HBR.out; have := HK1.out; omega))
  have HN4 := Lib.hid (show w.heap.size < (w4.setCell ⟨w1.heap.size, 3, none⟩ (.int .i64 x3)).heap.size ∧ br < (w4.setCell ⟨w1.heap.size, 3, none⟩ (.int .i64 x3)).heap.size ∧ w1.heap.size < (w4.setCell ⟨w1.heap.size, 3, none⟩ (.int .i64 x3)).heap.size from ⟨HNr.out, Nat.lt_of_lt_of_le HBR.out HC.out.size, HNl.out⟩)
  have HC := Lib.hid (HC.out.trans hc (fun _ _ e => e))
  have HS := Lib.hid hs
  have HNr := Lib.hid (lt_of_block HBr.out)
  have HNl := Lib.hid (lt_of_block HBl.out)
  clear hp hs hc he hv
  have f4 := free_at HBl.out 4
  have c_4 : w5.cell? ⟨w1.heap.size, 4, none⟩ = some (.int .i64 0) := (cell_at HBl.out 4).trans rfl
  have f5 := free_at HBl.out 5
  have c_5 : w5.cell? ⟨w1.heap.size, 5, none⟩ = some (.string ⟨#[]⟩) := (cell_at HBl.out 5).trans rfl
  have f6 := free_at HBl.out 6
  have c_6 : w5.cell? ⟨w1.heap.size, 6, none⟩ = some (.string ⟨#[]⟩) := (cell_at HBl.out 6).trans rfl
  have f7 := free_at HBl.out 7
  have c_7 : w5.cell? ⟨w1.heap.size, 7, none⟩ = some (.slice none 0 0) := (cell_at HBl.out 7).trans rfl
  have f8 := free_at HBl.out 8
  have c_8 : w5.cell? ⟨w1.heap.size, 8, none⟩ = some (.slice none 0 0) := (cell_at HBl.out 8).trans rfl
  have hset : Chg (fun k => k = w1.heap.size) w5 (((((w5.setCell ⟨w1.heap.size, 4, none⟩ (.int .i64 x4.kind)).setCell ⟨w1.heap.size, 5, none⟩ (.string x4.pkg)).setCell ⟨w1.heap.size, 6, none⟩ (.string x4.name)).setCell ⟨w1.heap.size, 7, none⟩ (.slice A4a x4.args.length c4a)).setCell ⟨w1.heap.size, 8, none⟩ (.slice A4b x4.res.length c4b)) := ((((((Chg.refl (fun k => k = w1.heap.size) w5).setCell (p := ⟨w1.heap.size, 4, none⟩) (fun _ => rfl) (.int .i64 x4.kind)).setCell (p := ⟨w1.heap.size, 5, none⟩) (fun _ => rfl) (.string x4.pkg)).setCell (p := ⟨w1.heap.size, 6, none⟩) (fun _ => rfl) (.string x4.name)).setCell (p := ⟨w1.heap.size, 7, none⟩) (fun _ => rfl) (.slice A4a x4.args.length c4a)).setCell (p := ⟨w1.heap.size, 8, none⟩) (fun _ => rfl) (.slice A4b x4.res.length c4b))
  have HBr := Lib.hid (hset.heap HBr.out (by have := HK1.out; omega))
  have HBl := Lib.hid (show (w5.setCell ⟨w1.heap.size, 4, none⟩ (.int .i64 x4.kind)).heap[w1.heap.size]? = some (.cells #[.int .i64 x0, .string x1, .string x2, .int .i64 x3, .int .i64 x4.kind, .string ⟨#[]⟩, .string ⟨#[]⟩, .slice none 0 0, .slice none 0 0, .slice none 0 0] 47 (0, 0)) from set_at HBl.out 4 (.int .i64 x4.kind))
  have HBl := Lib.hid (show ((w5.setCell ⟨w1.heap.size, 4, none⟩ (.int .i64 x4.kind)).setCell ⟨w1.heap.size, 5, none⟩ (.string x4.pkg)).heap[w1.heap.size]? = some (.cells #[.int .i64 x0, .string x1, .string x2, .int .i64 x3, .int .i64 x4.kind, .string x4.pkg, .string ⟨#[]⟩, .slice none 0 0, .slice none 0 0, .slice none 0 0] 47 (0, 0)) from set_at HBl.out 5 (.string x4.pkg))
  have HBl := Lib.hid (show (((w5.setCell ⟨w1.heap.size, 4, none⟩ (.int .i64 x4.kind)).setCell ⟨w1.heap.size, 5, none⟩ (.string x4.pkg)).setCell ⟨w1.heap.size, 6, none⟩ (.string x4.name)).heap[w1.heap.size]? = some (.cells #[.int .i64 x0, .string x1, .string x2, .int .i64 x3, .int .i64 x4.kind, .string x4.pkg, .string x4.name, .slice none 0 0, .slice none 0 0, .slice none 0 0] 47 (0, 0)) from set_at HBl.out 6 (.string x4.name))
  have HBl := Lib.hid (show ((((w5.setCell ⟨w1.heap.size, 4, none⟩ (.int .i64 x4.kind)).setCell ⟨w1.heap.size, 5, none⟩ (.string x4.pkg)).setCell ⟨w1.heap.size, 6, none⟩ (.string x4.name)).setCell ⟨w1.heap.size, 7, none⟩ (.slice A4a x4.args.length c4a)).heap[w1.heap.size]? = some (.cells #[.int .i64 x0, .string x1, .string x2, .int .i64 x3, .int .i64 x4.kind, .string x4.pkg, .string x4.name, .slice A4a x4.args.length c4a, .slice none 0 0, .slice none 0 0] 47 (0, 0)) from set_at HBl.out 7 (.slice A4a x4.args.length c4a))
  have HBl := Lib.hid (show (((((w5.setCell ⟨w1.heap.size, 4, none⟩ (.int .i64 x4.kind)).setCell ⟨w1.heap.size, 5, none⟩ (.string x4.pkg)).setCell ⟨w1.heap.size, 6, none⟩ (.string x4.name)).setCell ⟨w1.heap.size, 7, none⟩ (.slice A4a x4.args.length c4a)).setCell ⟨w1.heap.size, 8, none⟩ (.slice A4b x4.res.length c4b)).heap[w1.heap.size]? = some (.cells #[.int .i64 x0, .string x1, .string x2, .int .i64 x3, .int .i64 x4.kind, .string x4.pkg, .string x4.name, .slice A4a x4.args.length c4a, .slice A4b x4.res.length c4b, .slice none 0 0] 47 (0, 0)) from set_at HBl.out 8 (.slice A4b x4.res.length c4b))
  have HS := Lib.hid (HS.out.keep hset (fun q => by have := HBR.out; have := HK1.out; omega) (fun k q => by have := HW0.out; have := HK1.out; omega))
  have HC := Lib.hid (HC.out.trans hset (fun i hi q => by have := HK1.out; omega))
  have HY4a := Lib.hid (HY4a.out.later hset (fun k q => by have := HN4.out; omega))
  have HY4b := Lib.hid (HY4b.out.later hset (fun k q => by have := HN4.out; omega))
  clear hset
  have HNr := Lib.hid (lt_of_block HBr.out); have HNl := Lib.hid (lt_of_block HBl.out)
  go_wp2_with fail
  clear f4 c_4 f5 c_5 f6 c_6 f7 c_7 f8 c_8
  refine (takesFld_any W0 _ br dp _ _ e_fields o_fields l5 HS.out).mono ?_
  intro e w6 he
  rcases he.split with ⟨x5, l6, v5, hp, rfl, hv, hs, hc⟩ | ⟨hp, u, rfl, hc⟩
  case inr =>
    have HT := Lib.hid (show declP l0 = none by rw [HT.out, hp]; rfl)
    have HC := Lib.hid (HC.out.trans hc (fun _ _ e => e))
    clear hp hc he
    go_wp2_with fail
    refine ⟨rfl, ?_⟩
    rw [HT.out]
    exact ⟨_, rfl, HC.out⟩
  have HT := Lib.hid (show declP l0 = some ((Dcl.mk x0 x1 x2 x3 x4 x5), l6) by rw [HT.out, hp]; rfl)
  obtain ⟨A5, c5, rfl, y⟩ := ValL.slFld hv
  have HY5 := Lib.hid y; clear y
  have HBr := Lib.hid (hc.heap HBr.out (by have := HBR.out; omega))
  have HBl := Lib.hid (hc.heap HBl.out (by have := HBR.out; have := HK1.out; omega))
  have HN5 := Lib.hid (show w.heap.size < (((((w5.setCell ⟨w1.heap.size, 4, none⟩ (.int .i64 x4.kind)).setCell ⟨w1.heap.size, 5, none⟩ (.string x4.pkg)).setCell ⟨w1.heap.size, 6, none⟩ (.string x4.name)).setCell ⟨w1.heap.size, 7, none⟩ (.slice A4a x4.args.length c4a)).setCell ⟨w1.heap.size, 8, none⟩ (.slice A4b x4.res.length c4b)).heap.size ∧ br < (((((w5.setCell ⟨w1.heap.size, 4, none⟩ (.int .i64 x4.kind)).setCell ⟨w1.heap.size, 5, none⟩ (.string x4.pkg)).setCell ⟨w1.heap.size, 6, none⟩ (.string x4.name)).setCell ⟨w1.heap.size, 7, none⟩ (.slice A4a x4.args.length c4a)).setCell ⟨w1.heap.size, 8, none⟩ (.slice A4b x4.res.length c4b)).heap.size ∧ w1.heap.size < (((((w5.setCell ⟨w1.heap.size, 4, none⟩ (.int .i64 x4.kind)).setCell ⟨w1.heap.size, 5, none⟩ (.string x4.pkg)).setCell ⟨w1.heap.size, 6, none⟩ (.string x4.name)).setCell ⟨w1.heap.size, 7, none⟩ (.slice A4a x4.args.length c4a)).setCell ⟨w1.heap.size, 8, none⟩ (.slice A4b x4.res.length c4b)).heap.size from ⟨HNr.out, Nat.lt_of_lt_of_le HBR.out HC.out.size, HNl.out⟩)
  have HY4a := Lib.hid (HY4a.out.later hc (fun k q => by have := HN4.out; omega))
  have HY4b := Lib.hid (HY4b.out.later hc (fun k q => by have := HN4.out; omega))
  have HC := Lib.hid (HC.out.trans hc (fun _ _ e => e))
  have HS := Lib.hid hs
  have HNr := Lib.hid (lt_of_block HBr.out)
  have HNl := Lib.hid (lt_of_block HBl.out)
  clear hp hs hc he hv
  have f9 := free_at HBl.out 9
  have c_9 : w6.cell? ⟨w1.heap.size, 9, none⟩ = some (.slice none 0 0) := (cell_at HBl.out 9).trans rfl
  have hset : Chg (fun k => k = w1.heap.size) w6 (w6.setCell ⟨w1.heap.size, 9, none⟩ (.slice A5 x5.length c5)) := ((Chg.refl (fun k => k = w1.heap.size) w6).setCell (p := ⟨w1.heap.size, 9, none⟩) (fun _ => rfl) (.slice A5 x5.length c5))
  have HBr := Lib.hid (hset.heap HBr.out (by have := HK1.out; omega))
  have HBl := Lib.hid (show (w6.setCell ⟨w1.heap.size, 9, none⟩ (.slice A5 x5.length c5)).heap[w1.heap.size]? = some (.cells #[.int .i64 x0, .string x1, .string x2, .int .i64 x3, .int .i64 x4.kind, .string x4.pkg, .string x4.name, .slice A4a x4.args.length c4a, .slice A4b x4.res.length c4b, .slice A5 x5.length c5] 47 (0, 0)) from set_at HBl.out 9 (.slice A5 x5.length c5))
  have HS := Lib.hid (HS.out.keep hset (fun q => by have := HBR.out; have := HK1.out; omega) (fun k q => by have := HW0.out; have := HK1.out; omega))
  have HC := Lib.hid (HC.out.trans hset (fun i hi q => by have := HK1.out; omega))
  have HY4a := Lib.hid (HY4a.out.later hset (fun k q => by have := HN4.out; omega))
  have HY4b := Lib.hid (HY4b.out.later hset (fun k q => by have := HN4.out; omega))
  have HY5 := Lib.hid (HY5.out.later hset (fun k q => by have := HN5.out; omega))
  clear hset
  have HNr := Lib.hid (lt_of_block HBr.out); have HNl := Lib.hid (lt_of_block HBl.out)
  have g_0 : (w6.setCell ⟨w1.heap.size, 9, none⟩ (.slice A5 x5.length c5)).cell? ⟨w1.heap.size, 0, none⟩ = some (.int .i64 x0) := (cell_at HBl.out 0).trans rfl
  have g_1 : (w6.setCell ⟨w1.heap.size, 9, none⟩ (.slice A5 x5.length c5)).cell? ⟨w1.heap.size, 1, none⟩ = some (.string x1) := (cell_at HBl.out 1).trans rfl
  have g_2 : (w6.setCell ⟨w1.heap.size, 9, none⟩ (.slice A5 x5.length c5)).cell? ⟨w1.heap.size, 2, none⟩ = some (.string x2) := (cell_at HBl.out 2).trans rfl
  have g_3 : (w6.setCell ⟨w1.heap.size, 9, none⟩ (.slice A5 x5.length c5)).cell? ⟨w1.heap.size, 3, none⟩ = some (.int .i64 x3) := (cell_at HBl.out 3).trans rfl
  have g_4 : (w6.setCell ⟨w1.heap.size, 9, none⟩ (.slice A5 x5.length c5)).cell? ⟨w1.heap.size, 4, none⟩ = some (.int .i64 x4.kind) := (cell_at HBl.out 4).trans rfl
  have g_5 : (w6.setCell ⟨w1.heap.size, 9, none⟩ (.slice A5 x5.length c5)).cell? ⟨w1.heap.size, 5, none⟩ = some (.string x4.pkg) := (cell_at HBl.out 5).trans rfl
  have g_6 : (w6.setCell ⟨w1.heap.size, 9, none⟩ (.slice A5 x5.length c5)).cell? ⟨w1.heap.size, 6, none⟩ = some (.string x4.name) := (cell_at HBl.out 6).trans rfl
  have g_7 : (w6.setCell ⟨w1.heap.size, 9, none⟩ (.slice A5 x5.length c5)).cell? ⟨w1.heap.size, 7, none⟩ = some (.slice A4a x4.args.length c4a) := (cell_at HBl.out 7).trans rfl
  have g_8 : (w6.setCell ⟨w1.heap.size, 9, none⟩ (.slice A5 x5.length c5)).cell? ⟨w1.heap.size, 8, none⟩ = some (.slice A4b x4.res.length c4b) := (cell_at HBl.out 8).trans rfl
  have g_9 : (w6.setCell ⟨w1.heap.size, 9, none⟩ (.slice A5 x5.length c5)).cell? ⟨w1.heap.size, 9, none⟩ = some (.slice A5 x5.length c5) := (cell_at HBl.out 9).trans rfl
  have r0 := free_at HBr.out 0
  have s_0 : (w6.setCell ⟨w1.heap.size, 9, none⟩ (.slice A5 x5.length c5)).cell? ⟨w.heap.size, 0, none⟩ = some (.int .i64 0) := (cell_at HBr.out 0).trans rfl
  have r1 := free_at HBr.out 1
  have s_1 : (w6.setCell ⟨w1.heap.size, 9, none⟩ (.slice A5 x5.length c5)).cell? ⟨w.heap.size, 1, none⟩ = some (.string ⟨#[]⟩) := (cell_at HBr.out 1).trans rfl
  have r2 := free_at HBr.out 2
  have s_2 : (w6.setCell ⟨w1.heap.size, 9, none⟩ (.slice A5 x5.length c5)).cell? ⟨w.heap.size, 2, none⟩ = some (.string ⟨#[]⟩) := (cell_at HBr.out 2).trans rfl
  have r3 := free_at HBr.out 3
  have s_3 : (w6.setCell ⟨w1.heap.size, 9, none⟩ (.slice A5 x5.length c5)).cell? ⟨w.heap.size, 3, none⟩ = some (.int .i64 0) := (cell_at HBr.out 3).trans rfl
  have r4 := free_at HBr.out 4
  have s_4 : (w6.setCell ⟨w1.heap.size, 9, none⟩ (.slice A5 x5.length c5)).cell? ⟨w.heap.size, 4, none⟩ = some (.int .i64 0) := (cell_at HBr.out 4).trans rfl
  have r5 := free_at HBr.out 5
  have s_5 : (w6.setCell ⟨w1.heap.size, 9, none⟩ (.slice A5 x5.length c5)).cell? ⟨w.heap.size, 5, none⟩ = some (.string ⟨#[]⟩) := (cell_at HBr.out 5).trans rfl
  have r6 := free_at HBr.out 6
  have s_6 : (w6.setCell ⟨w1.heap.size, 9, none⟩ (.slice A5 x5.length c5)).cell? ⟨w.heap.size, 6, none⟩ = some (.string ⟨#[]⟩) := (cell_at HBr.out 6).trans rfl
  have r7 := free_at HBr.out 7
  have s_7 : (w6.setCell ⟨w1.heap.size, 9, none⟩ (.slice A5 x5.length c5)).cell? ⟨w.heap.size, 7, none⟩ = some (.slice none 0 0) := (cell_at HBr.out 7).trans rfl
  have r8 := free_at HBr.out 8
  have s_8 : (w6.setCell ⟨w1.heap.size, 9, none⟩ (.slice A5 x5.length c5)).cell? ⟨w.heap.size, 8, none⟩ = some (.slice none 0 0) := (cell_at HBr.out 8).trans rfl
  have r9 := free_at HBr.out 9
  have s_9 : (w6.setCell ⟨w1.heap.size, 9, none⟩ (.slice A5 x5.length c5)).cell? ⟨w.heap.size, 9, none⟩ = some (.slice none 0 0) := (cell_at HBr.out 9).trans rfl
  have hset : Chg (fun k => k = w.heap.size) (w6.setCell ⟨w1.heap.size, 9, none⟩ (.slice A5 x5.length c5)) (((((((((((w6.setCell ⟨w1.heap.size, 9, none⟩ (.slice A5 x5.length c5)).setCell ⟨w.heap.size, 0, none⟩ (.int .i64 x0)).setCell ⟨w.heap.size, 1, none⟩ (.string x1)).setCell ⟨w.heap.size, 2, none⟩ (.string x2)).setCell ⟨w.heap.size, 3, none⟩ (.int .i64 x3)).setCell ⟨w.heap.size, 4, none⟩ (.int .i64 x4.kind)).setCell ⟨w.heap.size, 5, none⟩ (.string x4.pkg)).setCell ⟨w.heap.size, 6, none⟩ (.string x4.name)).setCell ⟨w.heap.size, 7, none⟩ (.slice A4a x4.args.length c4a)).setCell ⟨w.heap.size, 8, none⟩ (.slice A4b x4.res.length c4b)).setCell ⟨w.heap.size, 9, none⟩ (.slice A5 x5.length c5)) := (((((((((((Chg.refl (fun k => k = w.heap.size) (w6.setCell ⟨w1.heap.size, 9, none⟩ (.slice A5 x5.length c5))).setCell (p := ⟨w.heap.size, 0, none⟩) (fun _ => rfl) (.int .i64 x0)).setCell (p := ⟨w.heap.size, 1, none⟩) (fun _ => rfl) (.string x1)).setCell (p := ⟨w.heap.size, 2, none⟩) (fun _ => rfl) (.string x2)).setCell (p := ⟨w.heap.size, 3, none⟩) (fun _ => rfl) (.int .i64 x3)).setCell (p := ⟨w.heap.size, 4, none⟩) (fun _ => rfl) (.int .i64 x4.kind)).setCell (p := ⟨w.heap.size, 5, none⟩) (fun _ => rfl) (.string x4.pkg)).setCell (p := ⟨w.heap.size, 6, none⟩) (fun _ => rfl) (.string x4.name)).setCell (p := ⟨w.heap.size, 7, none⟩) (fun _ => rfl) (.slice A4a x4.args.length c4a)).setCell (p := ⟨w.heap.size, 8, none⟩) (fun _ => rfl) (.slice A4b x4.res.length c4b)).setCell (p := ⟨w.heap.size, 9, none⟩) (fun _ => rfl) (.slice A5 x5.length c5))
  have HBr := Lib.hid (show ((w6.setCell ⟨w1.heap.size, 9, none⟩ (.slice A5 x5.length c5)).setCell ⟨w.heap.size, 0, none⟩ (.int .i64 x0)).heap[w.heap.size]? = some (.cells #[.int .i64 x0, .string ⟨#[]⟩, .string ⟨#[]⟩, .int .i64 0, .int .i64 0, .string ⟨#[]⟩, .string ⟨#[]⟩, .slice none 0 0, .slice none 0 0, .slice none 0 0] 47 (0, 0)) from set_at HBr.out 0 (.int .i64 x0))
  have HBr := Lib.hid (show (((w6.setCell ⟨w1.heap.size, 9, none⟩ (.slice A5 x5.length c5)).setCell ⟨w.heap.size, 0, none⟩ (.int .i64 x0)).setCell ⟨w.heap.size, 1, none⟩ (.string x1)).heap[w.heap.size]? = some (.cells #[.int .i64 x0, .string x1, .string ⟨#[]⟩, .int .i64 0, .int .i64 0, .string ⟨#[]⟩, .string ⟨#[]⟩, .slice none 0 0, .slice none 0 0, .slice none 0 0] 47 (0, 0)) from set_at HBr.out 1 (.string x1))
  have HBr := Lib.hid (show ((((w6.setCell ⟨w1.heap.size, 9, none⟩ (.slice A5 x5.length c5)).setCell ⟨w.heap.size, 0, none⟩ (.int .i64 x0)).setCell ⟨w.heap.size, 1, none⟩ (.string x1)).setCell ⟨w.heap.size, 2, none⟩ (.string x2)).heap[w.heap.size]? = some (.cells #[.int .i64 x0, .string x1, .string x2, .int .i64 0, .int .i64 0, .string ⟨#[]⟩, .string ⟨#[]⟩, .slice none 0 0, .slice none 0 0, .slice none 0 0] 47 (0, 0)) from set_at HBr.out 2 (.string x2))
  have HBr := Lib.hid (show (((((w6.setCell ⟨w1.heap.size, 9, none⟩ (.slice A5 x5.length c5)).setCell ⟨w.heap.size, 0, none⟩ (.int .i64 x0)).setCell ⟨w.heap.size, 1, none⟩ (.string x1)).setCell ⟨w.heap.size, 2, none⟩ (.string x2)).setCell ⟨w.heap.size, 3, none⟩ (.int .i64 x3)).heap[w.heap.size]? = some (.cells #[.int .i64 x0, .string x1, .string x2, .int .i64 x3, .int .i64 0, .string ⟨#[]⟩, .string ⟨#[]⟩, .slice none 0 0, .slice none 0 0, .slice none 0 0] 47 (0, 0)) from set_at HBr.out 3 (.int .i64 x3))
  have HBr := Lib.hid (show ((((((w6.setCell ⟨w1.heap.size, 9, none⟩ (.slice A5 x5.length c5)).setCell ⟨w.heap.size, 0, none⟩ (.int .i64 x0)).setCell ⟨w.heap.size, 1, none⟩ (.string x1)).setCell ⟨w.heap.size, 2, none⟩ (.string x2)).setCell ⟨w.heap.size, 3, none⟩ (.int .i64 x3)).setCell ⟨w.heap.size, 4, none⟩ (.int .i64 x4.kind)).heap[w.heap.size]? = some (.cells #[.int .i64 x0, .string x1, .string x2, .int .i64 x3, .int .i64 x4.kind, .string ⟨#[]⟩, .string ⟨#[]⟩, .slice none 0 0, .slice none 0 0, .slice none 0 0] 47 (0, 0)) from set_at HBr.out 4 (.int .i64 x4.kind))
  have HBr := Lib.hid (show (((((((w6.setCell ⟨w1.heap.size, 9, none⟩ (.slice A5 x5.length c5)).setCell ⟨w.heap.size, 0, none⟩ (.int .i64 x0)).setCell ⟨w.heap.size, 1, none⟩ (.string x1)).setCell ⟨w.heap.size, 2, none⟩ (.string x2)).setCell ⟨w.heap.size, 3, none⟩ (.int .i64 x3)).setCell ⟨w.heap.size, 4, none⟩ (.int .i64 x4.kind)).setCell ⟨w.heap.size, 5, none⟩ (.string x4.pkg)).heap[w.heap.size]? = some (.cells #[.int .i64 x0, .string x1, .string x2, .int .i64 x3, .int .i64 x4.kind, .string x4.pkg, .string ⟨#[]⟩, .slice none 0 0, .slice none 0 0, .slice none 0 0] 47 (0, 0)) from set_at HBr.out 5 (.string x4.pkg))
  have HBr := Lib.hid (show ((((((((w6.setCell ⟨w1.heap.size, 9, none⟩ (.slice A5 x5.length c5)).setCell ⟨w.heap.size, 0, none⟩ (.int .i64 x0)).setCell ⟨w.heap.size, 1, none⟩ (.string x1)).setCell ⟨w.heap.size, 2, none⟩ (.string x2)).setCell ⟨w.heap.size, 3, none⟩ (.int .i64 x3)).setCell ⟨w.heap.size, 4, none⟩ (.int .i64 x4.kind)).setCell ⟨w.heap.size, 5, none⟩ (.string x4.pkg)).setCell ⟨w.heap.size, 6, none⟩ (.string x4.name)).heap[w.heap.size]? = some (.cells #[.int .i64 x0, .string x1, .string x2, .int .i64 x3, .int .i64 x4.kind, .string x4.pkg, .string x4.name, .slice none 0 0, .slice none 0 0, .slice none 0 0] 47 (0, 0)) from set_at HBr.out 6 (.string x4.name))
  have HBr := Lib.hid (show (((((((((w6.setCell ⟨w1.heap.size, 9, none⟩ (.slice A5 x5.length c5)).setCell ⟨w.heap.size, 0, none⟩ (.int .i64 x0)).setCell ⟨w.heap.size, 1, none⟩ (.string x1)).setCell ⟨w.heap.size, 2, none⟩ (.string x2)).setCell ⟨w.heap.size, 3, none⟩ (.int .i64 x3)).setCell ⟨w.heap.size, 4, none⟩ (.int .i64 x4.kind)).setCell ⟨w.heap.size, 5, none⟩ (.string x4.pkg)).setCell ⟨w.heap.size, 6, none⟩ (.string x4.name)).setCell ⟨w.heap.size, 7, none⟩ (.slice A4a x4.args.length c4a)).heap[w.heap.size]? = some (.cells #[.int .i64 x0, .string x1, .string x2, .int .i64 x3, .int .i64 x4.kind, .string x4.pkg, .string x4.name, .slice A4a x4.args.length c4a, .slice none 0 0, .slice none 0 0] 47 (0, 0)) from set_at HBr.out 7 (.slice A4a x4.args.length c4a))
  have HBr := Lib.hid (show ((((((((((w6.setCell ⟨w1.heap.size, 9, none⟩ (.slice A5 x5.length c5)).setCell ⟨w.heap.size, 0, none⟩ (.int .i64 x0)).setCell ⟨w.heap.size, 1, none⟩ (.string x1)).setCell ⟨w.heap.size, 2, none⟩ (.string x2)).setCell ⟨w.heap.size, 3, none⟩ (.int .i64 x3)).setCell ⟨w.heap.size, 4, none⟩ (.int .i64 x4.kind)).setCell ⟨w.heap.size, 5, none⟩ (.string x4.pkg)).setCell ⟨w.heap.size, 6, none⟩ (.string x4.name)).setCell ⟨w.heap.size, 7, none⟩ (.slice A4a x4.args.length c4a)).setCell ⟨w.heap.size, 8, none⟩ (.slice A4b x4.res.length c4b)).heap[w.heap.size]? = some (.cells #[.int .i64 x0, .string x1, .string x2, .int .i64 x3, .int .i64 x4.kind, .string x4.pkg, .string x4.name, .slice A4a x4.args.length c4a, .slice A4b x4.res.length c4b, .slice none 0 0] 47 (0, 0)) from set_at HBr.out 8 (.slice A4b x4.res.length c4b))
  have HBr := Lib.hid (show (((((((((((w6.setCell ⟨w1.heap.size, 9, none⟩ (.slice A5 x5.length c5)).setCell ⟨w.heap.size, 0, none⟩ (.int .i64 x0)).setCell ⟨w.heap.size, 1, none⟩ (.string x1)).setCell ⟨w.heap.size, 2, none⟩ (.string x2)).setCell ⟨w.heap.size, 3, none⟩ (.int .i64 x3)).setCell ⟨w.heap.size, 4, none⟩ (.int .i64 x4.kind)).setCell ⟨w.heap.size, 5, none⟩ (.string x4.pkg)).setCell ⟨w.heap.size, 6, none⟩ (.string x4.name)).setCell ⟨w.heap.size, 7, none⟩ (.slice A4a x4.args.length c4a)).setCell ⟨w.heap.size, 8, none⟩ (.slice A4b x4.res.length c4b)).setCell ⟨w.heap.size, 9, none⟩ (.slice A5 x5.length c5)).heap[w.heap.size]? = some (.cells #[.int .i64 x0, .string x1, .string x2, .int .i64 x3, .int .i64 x4.kind, .string x4.pkg, .string x4.name, .slice A4a x4.args.length c4a, .slice A4b x4.res.length c4b, .slice A5 x5.length c5] 47 (0, 0)) from set_at HBr.out 9 (.slice A5 x5.length c5))
  have HS := Lib.hid (HS.out.keep hset (fun q => by have := HBR.out; omega) (fun k q => by have := HW0.out; omega))
  have HC := Lib.hid (HC.out.trans hset (fun i hi q => by omega))
  have HY4a := Lib.hid (HY4a.out.later hset (fun k q => by have := HN4.out; omega))
  have HY4b := Lib.hid (HY4b.out.later hset (fun k q => by have := HN4.out; omega))
  have HY5 := Lib.hid (HY5.out.later hset (fun k q => by have := HN5.out; omega))
  clear hset
  have hd : ∀ (i : Nat) (v : Value), ([.int .i64 x0, .string x1, .string x2, .int .i64 x3, .int .i64 x4.kind, .string x4.pkg, .string x4.name, .slice A4a x4.args.length c4a, .slice A4b x4.res.length c4b, .slice A5 x5.length c5] : List Value)[i]? = some v → (((((((((((w6.setCell ⟨w1.heap.size, 9, none⟩ (.slice A5 x5.length c5)).setCell ⟨w.heap.size, 0, none⟩ (.int .i64 x0)).setCell ⟨w.heap.size, 1, none⟩ (.string x1)).setCell ⟨w.heap.size, 2, none⟩ (.string x2)).setCell ⟨w.heap.size, 3, none⟩ (.int .i64 x3)).setCell ⟨w.heap.size, 4, none⟩ (.int .i64 x4.kind)).setCell ⟨w.heap.size, 5, none⟩ (.string x4.pkg)).setCell ⟨w.heap.size, 6, none⟩ (.string x4.name)).setCell ⟨w.heap.size, 7, none⟩ (.slice A4a x4.args.length c4a)).setCell ⟨w.heap.size, 8, none⟩ (.slice A4b x4.res.length c4b)).setCell ⟨w.heap.size, 9, none⟩ (.slice A5 x5.length c5)).cell? ⟨w.heap.size, i, none⟩ = some v := fun i v q => by rw [cell_at HBr.out]; simpa using q
  have HD := Lib.hid hd; clear hd
  go_wp2_with fail
  refine bodyPost_ret (v := .agg #[.int .i64 x0, .string x1, .string x2, .int .i64 x3, .int .i64 x4.kind, .string x4.pkg, .string x4.name, .slice A4a x4.args.length c4a, .slice A4b x4.res.length c4b, .slice A5 x5.length c5]) (by have d0 := HD.out 0 _ rfl; have d1 := HD.out 1 _ rfl; have d2 := HD.out 2 _ rfl; have d3 := HD.out 3 _ rfl; have d4 := HD.out 4 _ rfl; have d5 := HD.out 5 _ rfl; have d6 := HD.out 6 _ rfl; have d7 := HD.out 7 _ rfl; have d8 := HD.out 8 _ rfl; have d9 := HD.out 9 _ rfl; simp [results, Try.results46, go_sem, d0, d1, d2, d3, d4, d5, d6, d7, d8, d9]) rfl ?_
  rw [HT.out]
  exact ⟨_, rfl, ⟨_, rfl, Dcl.shut (w := NewW w.heap.size none _) (t := (Dcl.mk x0 x1 x2 x3 x4 x5)) HX0.out HX1.out HX2.out HX3.out HX4.out.1 HX4.out.2.1 HX4.out.2.2 (HY4a.out.low (by have := HN4.out; omega)) (HY4b.out.low (by have := HN4.out; omega)) (HY5.out.low (by have := HN5.out; omega))⟩, HS.out, HC.out⟩
end Go.Proofs.Ytghnaaahkbnhlaa
