/-
  The walks of export's reader over records. The conditions: the reader stands (RdS).
-/
import Derived.Test.YtghnaaahkbnhlaaRdC
namespace Go.Proofs.Ytghnaaahkbnhlaa
open Go.RowKit Go.Lib
set_option linter.unusedVariables false
set_option linter.unusedSimpArgs false

theorem SL.later {w w' : World} {S : Nat → Prop} (hc : Chg S w w') {n : Nat} (hS : ∀ k, S k → k < n) {sz : Nat} {l : List (List D)} {m : Nat} {A : Option Addr} {c : Nat} (q : SL (NewW n none w) sz l m A c) : SL (NewW n none w') sz l m A c :=
  q.sub (new_chg hc (fun k q _ => .inl (hS k q)) (fun k q => by cases q))
theorem SL.low {w : World} {n n' : Nat} (h : n' ≤ n) {sz : Nat} {l : List (List D)} {m : Nat} {A : Option Addr} {c : Nat} (q : SL (NewW n none w) sz l m A c) : SL (NewW n' none w) sz l m A c :=
  q.sub (new_mono h _ _)
theorem takeP_size {n : Int} {l a r : List UInt8} (h : takeP n l = some (a, r)) : a.length + r.length = l.length := by
  unfold takeP at h
  split at h
  · simp only [Option.some.injEq, Prod.mk.injEq] at h
    obtain ⟨rfl, rfl⟩ := h
    rw [List.length_take, List.length_drop]; omega
  · cases h
theorem numP_size {l r : List UInt8} {n : Int} (h : numP l = some (n, r)) : r.length ≤ l.length := by
  unfold numP at h
  split at h
  · rename_i a r' ht
    simp only [Option.some.injEq, Prod.mk.injEq] at h
    obtain ⟨_, rfl⟩ := h
    have := takeP_size ht; omega
  · cases h
theorem textP_size {l r : List UInt8} {s : ByteArray} (h : textP l = some (s, r)) : s.size ≤ l.length := by
  unfold textP at h
  split at h
  · rename_i n r' hc
    simp only [Option.some.injEq, Prod.mk.injEq] at h
    obtain ⟨rfl, _⟩ := h
    unfold countP at hc
    split at hc
    · rename_i v r2 hn
      have := numP_size hn
      split at hc
      · simp only [Option.some.injEq, Prod.mk.injEq] at hc
        obtain ⟨_, rfl⟩ := hc
        simp only [ByteArray.size, List.size_toArray, List.length_take]
        omega
      · cases hc
    · cases hc
  · cases h
theorem Ty.ds_map' : ∀ l : List Ty, Ty.ds l = l.map Ty.d
  | [] => by simp [Ty.ds]
  | t :: r => by simp [Ty.ds, Ty.ds_map' r]
theorem ValL.slTy {w w' : World} {xs : List Ty} {v : Value} (h : ValL w Ty.d 5 xs v w') : ∃ A c, v = .slice A xs.length c ∧ SL (NewW w.heap.size none w') 5 (Ty.ds xs) xs.length A c := by
  obtain ⟨A, c, hv, q⟩ := SL.of h.1
  rw [List.length_map] at hv q
  exact ⟨A, c, hv, by rw [Ty.ds_map']; exact q⟩
theorem Fld.ds_map' : ∀ l : List Fld, Fld.ds l = l.map Fld.d
  | [] => by simp [Fld.ds]
  | t :: r => by simp [Fld.ds, Fld.ds_map' r]
theorem ValL.slFld {w w' : World} {xs : List Fld} {v : Value} (h : ValL w Fld.d 6 xs v w') : ∃ A c, v = .slice A xs.length c ∧ SL (NewW w.heap.size none w') 6 (Fld.ds xs) xs.length A c := by
  obtain ⟨A, c, hv, q⟩ := SL.of h.1
  rw [List.length_map] at hv q
  exact ⟨A, c, hv, by rw [Fld.ds_map']; exact q⟩
theorem Imp.ds_map' : ∀ l : List Imp, Imp.ds l = l.map Imp.d
  | [] => by simp [Imp.ds]
  | t :: r => by simp [Imp.ds, Imp.ds_map' r]
theorem ValL.slImp {w w' : World} {xs : List Imp} {v : Value} (h : ValL w Imp.d 2 xs v w') : ∃ A c, v = .slice A xs.length c ∧ SL (NewW w.heap.size none w') 2 (Imp.ds xs) xs.length A c := by
  obtain ⟨A, c, hv, q⟩ := SL.of h.1
  rw [List.length_map] at hv q
  exact ⟨A, c, hv, by rw [Imp.ds_map']; exact q⟩
theorem Dcl.ds_map' : ∀ l : List Dcl, Dcl.ds l = l.map Dcl.d
  | [] => by simp [Dcl.ds]
  | t :: r => by simp [Dcl.ds, Dcl.ds_map' r]
theorem ValL.slDcl {w w' : World} {xs : List Dcl} {v : Value} (h : ValL w Dcl.d 10 xs v w') : ∃ A c, v = .slice A xs.length c ∧ SL (NewW w.heap.size none w') 10 (Dcl.ds xs) xs.length A c := by
  obtain ⟨A, c, hv, q⟩ := SL.of h.1
  rw [List.length_map] at hv q
  exact ⟨A, c, hv, by rw [Dcl.ds_map']; exact q⟩
theorem Ex.ds_map' : ∀ l : List Ex, Ex.ds l = l.map Ex.d
  | [] => by simp [Ex.ds]
  | t :: r => by simp [Ex.ds, Ex.ds_map' r]
theorem ValL.slEx {w w' : World} {xs : List Ex} {v : Value} (h : ValL w Ex.d 4 xs v w') : ∃ A c, v = .slice A xs.length c ∧ SL (NewW w.heap.size none w') 4 (Ex.ds xs) xs.length A c := by
  obtain ⟨A, c, hv, q⟩ := SL.of h.1
  rw [List.length_map] at hv q
  exact ⟨A, c, hv, by rw [Ex.ds_map']; exact q⟩
theorem St.ds_map' : ∀ l : List St, St.ds l = l.map St.d
  | [] => by simp [St.ds]
  | t :: r => by simp [St.ds, St.ds_map' r]
theorem ValL.slSt {w w' : World} {xs : List St} {v : Value} (h : ValL w St.d 5 xs v w') : ∃ A c, v = .slice A xs.length c ∧ SL (NewW w.heap.size none w') 5 (St.ds xs) xs.length A c := by
  obtain ⟨A, c, hv, q⟩ := SL.of h.1
  rw [List.length_map] at hv q
  exact ⟨A, c, hv, by rw [St.ds_map']; exact q⟩
theorem Fn.ds_map' : ∀ l : List Fn, Fn.ds l = l.map Fn.d
  | [] => by simp [Fn.ds]
  | t :: r => by simp [Fn.ds, Fn.ds_map' r]
theorem ValL.slFn {w w' : World} {xs : List Fn} {v : Value} (h : ValL w Fn.d 5 xs v w') : ∃ A c, v = .slice A xs.length c ∧ SL (NewW w.heap.size none w') 5 (Fn.ds xs) xs.length A c := by
  obtain ⟨A, c, hv, q⟩ := SL.of h.1
  rw [List.length_map] at hv q
  exact ⟨A, c, hv, by rw [Fn.ds_map']; exact q⟩
set_option maxRecDepth 100000 in
set_option maxHeartbeats 3200000 in
theorem imported_any (W0 : World) (br : Nat) (dp : Int) : RdOne W0 br dp importP Imp.d 44 := by
  intro w l0 h
  have hA : Chg (fun _ => False) w (w.alloc (.cells #[.string ⟨#[]⟩, .int .i64 0] 58)) := (Chg.refl _ _).alloc _
  have HS := Lib.hid (h.keep hA id (fun _ q => q.elim))
  have HBr := Lib.hid (show (w.alloc (.cells #[.string ⟨#[]⟩, .int .i64 0] 58)).heap[w.heap.size]? = some (.cells #[.string ⟨#[]⟩, .int .i64 0] 58 (0, 0)) from alloc_at w _)
  have HBR := Lib.hid h.lt
  have HW0 := Lib.hid (show W0.heap.size ≤ w.heap.size from Nat.le_trans h.br_ge (Nat.le_of_lt h.lt))
  have HC := Lib.hid (hA.mono (S' := fun k => k = br) (fun _ _ q => q.elim))
  have HK := Lib.hid (show w.heap.size < (w.alloc (.cells #[.string ⟨#[]⟩, .int .i64 0] 58)).heap.size by simp)
  clear h hA
  go_enter Try.func44, Try.ntmps44
  go_wp2_with fail
  refine (rdtext_any W0 _ br l0 dp HS.out).mono ?_
  intro e w1 he
  rcases he.split with ⟨x0, l1, v0, hp, rfl, hv, hs, hc⟩ | ⟨hp, u, rfl, hc⟩
  case inr =>
    have HT := Lib.hid (show importP l0 = none by rw [show importP l0 = bindP (textP l0) (fun x0 l1 => bindP (numP l1) fun x1 l2 => some ((Imp.mk x0 x1), l2)) from rfl, hp]; rfl)
    have HC := Lib.hid (HC.out.trans hc (fun _ _ e => e))
    clear hp hc he
    go_wp2_with fail
    refine ⟨rfl, ?_⟩
    rw [HT.out]
    exact ⟨_, rfl, HC.out⟩
  have HT := Lib.hid (show importP l0 = bindP (numP l1) fun x1 l2 => some ((Imp.mk x0 x1), l2) by rw [show importP l0 = bindP (textP l0) (fun x0 l1 => bindP (numP l1) fun x1 l2 => some ((Imp.mk x0 x1), l2)) from rfl, hp]; rfl)
  have HX0 := Lib.hid (show x0.size ≤ Reach by have h1 := textP_size hp; have h2 := HS.out.len; unfold Reach; omega)
  obtain rfl := (show v0 = .string x0 from hv)
  have HBr := Lib.hid (hc.heap HBr.out (by have := HBR.out; omega))
  have HN0 := Lib.hid (show w.heap.size < (w.alloc (.cells #[.string ⟨#[]⟩, .int .i64 0] 58)).heap.size ∧ br < (w.alloc (.cells #[.string ⟨#[]⟩, .int .i64 0] 58)).heap.size from ⟨HK.out, Nat.lt_of_lt_of_le HBR.out HC.out.size⟩)
  have HC := Lib.hid (HC.out.trans hc (fun _ _ e => e))
  have HS := Lib.hid hs
  have HNr := Lib.hid (lt_of_block HBr.out)
  clear hp hs hc he hv
  go_wp2_with fail
  refine (rdnum_any W0 _ br l1 dp HS.out).mono ?_
  intro e w2 he
  rcases he.split with ⟨x1, l2, v1, hp, rfl, hv, hs, hc⟩ | ⟨hp, u, rfl, hc⟩
  case inr =>
    have HT := Lib.hid (show importP l0 = none by rw [HT.out, hp]; rfl)
    have HC := Lib.hid (HC.out.trans hc (fun _ _ e => e))
    clear hp hc he
    go_wp2_with fail
    refine ⟨rfl, ?_⟩
    rw [HT.out]
    exact ⟨_, rfl, HC.out⟩
  have HT := Lib.hid (show importP l0 = some ((Imp.mk x0 x1), l2) by rw [HT.out, hp]; rfl)
  have HX1 := Lib.hid (numP_in hp)
  obtain rfl := (show v1 = .int .i64 x1 from hv)
  have HBr := Lib.hid (hc.heap HBr.out (by have := HBR.out; omega))
  have HN1 := Lib.hid (show w.heap.size < w1.heap.size ∧ br < w1.heap.size from ⟨HNr.out, Nat.lt_of_lt_of_le HBR.out HC.out.size⟩)
  have HC := Lib.hid (HC.out.trans hc (fun _ _ e => e))
  have HS := Lib.hid hs
  have HNr := Lib.hid (lt_of_block HBr.out)
  clear hp hs hc he hv
  have r0 := free_at HBr.out 0
  have s_0 : w2.cell? ⟨w.heap.size, 0, none⟩ = some (.string ⟨#[]⟩) := (cell_at HBr.out 0).trans rfl
  have r1 := free_at HBr.out 1
  have s_1 : w2.cell? ⟨w.heap.size, 1, none⟩ = some (.int .i64 0) := (cell_at HBr.out 1).trans rfl
  have hset : Chg (fun k => k = w.heap.size) w2 ((w2.setCell ⟨w.heap.size, 0, none⟩ (.string x0)).setCell ⟨w.heap.size, 1, none⟩ (.int .i64 x1)) := (((Chg.refl (fun k => k = w.heap.size) w2).setCell (p := ⟨w.heap.size, 0, none⟩) (fun _ => rfl) (.string x0)).setCell (p := ⟨w.heap.size, 1, none⟩) (fun _ => rfl) (.int .i64 x1))
  have HBr := Lib.hid (show (w2.setCell ⟨w.heap.size, 0, none⟩ (.string x0)).heap[w.heap.size]? = some (.cells #[.string x0, .int .i64 0] 58 (0, 0)) from set_at HBr.out 0 (.string x0))
  have HBr := Lib.hid (show ((w2.setCell ⟨w.heap.size, 0, none⟩ (.string x0)).setCell ⟨w.heap.size, 1, none⟩ (.int .i64 x1)).heap[w.heap.size]? = some (.cells #[.string x0, .int .i64 x1] 58 (0, 0)) from set_at HBr.out 1 (.int .i64 x1))
  have HS := Lib.hid (HS.out.keep hset (fun q => by have := HBR.out; omega) (fun k q => by have := HW0.out; omega))
  have HC := Lib.hid (HC.out.trans hset (fun i hi q => by omega))
  clear hset
  have hd : ∀ (i : Nat) (v : Value), ([.string x0, .int .i64 x1] : List Value)[i]? = some v → ((w2.setCell ⟨w.heap.size, 0, none⟩ (.string x0)).setCell ⟨w.heap.size, 1, none⟩ (.int .i64 x1)).cell? ⟨w.heap.size, i, none⟩ = some v := fun i v q => by rw [cell_at HBr.out]; simpa using q
  have HD := Lib.hid hd; clear hd
  go_wp2_with fail
  refine bodyPost_ret (v := .agg #[.string x0, .int .i64 x1]) (by have d0 := HD.out 0 _ rfl; have d1 := HD.out 1 _ rfl; simp [results, Try.results44, go_sem, d0, d1]) rfl ?_
  rw [HT.out]
  exact ⟨_, rfl, ⟨_, rfl, Imp.shut (w := NewW w.heap.size none _) (t := (Imp.mk x0 x1)) HX0.out HX1.out⟩, HS.out, HC.out⟩
set_option maxRecDepth 100000 in
set_option maxHeartbeats 3200000 in
theorem field_any (W0 : World) (br : Nat) (dp : Int) (o_type : RdOne W0 br dp (typP 101) Ty.d 71) : RdOne W0 br dp fieldP Fld.d 73 := by
  intro w l0 h
  have hA : Chg (fun _ => False) w (w.alloc (.cells #[.string ⟨#[]⟩, .int .i64 0, .string ⟨#[]⟩, .string ⟨#[]⟩, .slice none 0 0, .slice none 0 0] 93)) := (Chg.refl _ _).alloc _
  have HS := Lib.hid (h.keep hA id (fun _ q => q.elim))
  have HBr := Lib.hid (show (w.alloc (.cells #[.string ⟨#[]⟩, .int .i64 0, .string ⟨#[]⟩, .string ⟨#[]⟩, .slice none 0 0, .slice none 0 0] 93)).heap[w.heap.size]? = some (.cells #[.string ⟨#[]⟩, .int .i64 0, .string ⟨#[]⟩, .string ⟨#[]⟩, .slice none 0 0, .slice none 0 0] 93 (0, 0)) from alloc_at w _)
  have HBR := Lib.hid h.lt
  have HW0 := Lib.hid (show W0.heap.size ≤ w.heap.size from Nat.le_trans h.br_ge (Nat.le_of_lt h.lt))
  have HC := Lib.hid (hA.mono (S' := fun k => k = br) (fun _ _ q => q.elim))
  have HK := Lib.hid (show w.heap.size < (w.alloc (.cells #[.string ⟨#[]⟩, .int .i64 0, .string ⟨#[]⟩, .string ⟨#[]⟩, .slice none 0 0, .slice none 0 0] 93)).heap.size by simp)
  clear h hA
  go_enter Try.func73, Try.ntmps73
  go_wp2_with fail
  refine (rdtext_any W0 _ br l0 dp HS.out).mono ?_
  intro e w1 he
  rcases he.split with ⟨x0, l1, v0, hp, rfl, hv, hs, hc⟩ | ⟨hp, u, rfl, hc⟩
  case inr =>
    have HT := Lib.hid (show fieldP l0 = none by rw [show fieldP l0 = bindP (textP l0) (fun x0 l1 => bindP (typP 101 l1) fun x1 l2 => some ((Fld.mk x0 x1), l2)) from rfl, hp]; rfl)
    have HC := Lib.hid (HC.out.trans hc (fun _ _ e => e))
    clear hp hc he
    go_wp2_with fail
    refine ⟨rfl, ?_⟩
    rw [HT.out]
    exact ⟨_, rfl, HC.out⟩
  have HT := Lib.hid (show fieldP l0 = bindP (typP 101 l1) fun x1 l2 => some ((Fld.mk x0 x1), l2) by rw [show fieldP l0 = bindP (textP l0) (fun x0 l1 => bindP (typP 101 l1) fun x1 l2 => some ((Fld.mk x0 x1), l2)) from rfl, hp]; rfl)
  have HX0 := Lib.hid (show x0.size ≤ Reach by have h1 := textP_size hp; have h2 := HS.out.len; unfold Reach; omega)
  obtain rfl := (show v0 = .string x0 from hv)
  have HBr := Lib.hid (hc.heap HBr.out (by have := HBR.out; omega))
  have HN0 := Lib.hid (show w.heap.size < (w.alloc (.cells #[.string ⟨#[]⟩, .int .i64 0, .string ⟨#[]⟩, .string ⟨#[]⟩, .slice none 0 0, .slice none 0 0] 93)).heap.size ∧ br < (w.alloc (.cells #[.string ⟨#[]⟩, .int .i64 0, .string ⟨#[]⟩, .string ⟨#[]⟩, .slice none 0 0, .slice none 0 0] 93)).heap.size from ⟨HK.out, Nat.lt_of_lt_of_le HBR.out HC.out.size⟩)
  have HC := Lib.hid (HC.out.trans hc (fun _ _ e => e))
  have HS := Lib.hid hs
  have HNr := Lib.hid (lt_of_block HBr.out)
  clear hp hs hc he hv
  go_wp2_with fail
  refine (o_type _ l1 HS.out).mono ?_
  intro e w2 he
  rcases he.split with ⟨x1, l2, v1, hp, rfl, hv, hs, hc⟩ | ⟨hp, u, rfl, hc⟩
  case inr =>
    have HT := Lib.hid (show fieldP l0 = none by rw [HT.out, hp]; rfl)
    have HC := Lib.hid (HC.out.trans hc (fun _ _ e => e))
    clear hp hc he
    go_wp2_with fail
    refine ⟨rfl, ?_⟩
    rw [HT.out]
    exact ⟨_, rfl, HC.out⟩
  have HT := Lib.hid (show fieldP l0 = some ((Fld.mk x0 x1), l2) by rw [HT.out, hp]; rfl)
  obtain ⟨vs1, rfl, hv⟩ := hv
  obtain ⟨A1a, c1a, A1b, c1b, rfl, y0, y1, y2, y3, y4⟩ := Ty.opn hv
  have HX1 := Lib.hid (And.intro y0 (And.intro y1 y2)); have HY1a := Lib.hid y3; have HY1b := Lib.hid y4
  clear y0 y1 y2 y3 y4
  have HBr := Lib.hid (hc.heap HBr.out (by have := HBR.out; omega))
  have HN1 := Lib.hid (show w.heap.size < w1.heap.size ∧ br < w1.heap.size from ⟨HNr.out, Nat.lt_of_lt_of_le HBR.out HC.out.size⟩)
  have HC := Lib.hid (HC.out.trans hc (fun _ _ e => e))
  have HS := Lib.hid hs
  have HNr := Lib.hid (lt_of_block HBr.out)
  clear hp hs hc he hv
  have r0 := free_at HBr.out 0
  have s_0 : w2.cell? ⟨w.heap.size, 0, none⟩ = some (.string ⟨#[]⟩) := (cell_at HBr.out 0).trans rfl
  have r1 := free_at HBr.out 1
  have s_1 : w2.cell? ⟨w.heap.size, 1, none⟩ = some (.int .i64 0) := (cell_at HBr.out 1).trans rfl
  have r2 := free_at HBr.out 2
  have s_2 : w2.cell? ⟨w.heap.size, 2, none⟩ = some (.string ⟨#[]⟩) := (cell_at HBr.out 2).trans rfl
  have r3 := free_at HBr.out 3
  have s_3 : w2.cell? ⟨w.heap.size, 3, none⟩ = some (.string ⟨#[]⟩) := (cell_at HBr.out 3).trans rfl
  have r4 := free_at HBr.out 4
  have s_4 : w2.cell? ⟨w.heap.size, 4, none⟩ = some (.slice none 0 0) := (cell_at HBr.out 4).trans rfl
  have r5 := free_at HBr.out 5
  have s_5 : w2.cell? ⟨w.heap.size, 5, none⟩ = some (.slice none 0 0) := (cell_at HBr.out 5).trans rfl
  have hset : Chg (fun k => k = w.heap.size) w2 ((((((w2.setCell ⟨w.heap.size, 0, none⟩ (.string x0)).setCell ⟨w.heap.size, 1, none⟩ (.int .i64 x1.kind)).setCell ⟨w.heap.size, 2, none⟩ (.string x1.pkg)).setCell ⟨w.heap.size, 3, none⟩ (.string x1.name)).setCell ⟨w.heap.size, 4, none⟩ (.slice A1a x1.args.length c1a)).setCell ⟨w.heap.size, 5, none⟩ (.slice A1b x1.res.length c1b)) := (((((((Chg.refl (fun k => k = w.heap.size) w2).setCell (p := ⟨w.heap.size, 0, none⟩) (fun _ => rfl) (.string x0)).setCell (p := ⟨w.heap.size, 1, none⟩) (fun _ => rfl) (.int .i64 x1.kind)).setCell (p := ⟨w.heap.size, 2, none⟩) (fun _ => rfl) (.string x1.pkg)).setCell (p := ⟨w.heap.size, 3, none⟩) (fun _ => rfl) (.string x1.name)).setCell (p := ⟨w.heap.size, 4, none⟩) (fun _ => rfl) (.slice A1a x1.args.length c1a)).setCell (p := ⟨w.heap.size, 5, none⟩) (fun _ => rfl) (.slice A1b x1.res.length c1b))
  have HBr := Lib.hid (show (w2.setCell ⟨w.heap.size, 0, none⟩ (.string x0)).heap[w.heap.size]? = some (.cells #[.string x0, .int .i64 0, .string ⟨#[]⟩, .string ⟨#[]⟩, .slice none 0 0, .slice none 0 0] 93 (0, 0)) from set_at HBr.out 0 (.string x0))
  have HBr := Lib.hid (show ((w2.setCell ⟨w.heap.size, 0, none⟩ (.string x0)).setCell ⟨w.heap.size, 1, none⟩ (.int .i64 x1.kind)).heap[w.heap.size]? = some (.cells #[.string x0, .int .i64 x1.kind, .string ⟨#[]⟩, .string ⟨#[]⟩, .slice none 0 0, .slice none 0 0] 93 (0, 0)) from set_at HBr.out 1 (.int .i64 x1.kind))
  have HBr := Lib.hid (show (((w2.setCell ⟨w.heap.size, 0, none⟩ (.string x0)).setCell ⟨w.heap.size, 1, none⟩ (.int .i64 x1.kind)).setCell ⟨w.heap.size, 2, none⟩ (.string x1.pkg)).heap[w.heap.size]? = some (.cells #[.string x0, .int .i64 x1.kind, .string x1.pkg, .string ⟨#[]⟩, .slice none 0 0, .slice none 0 0] 93 (0, 0)) from set_at HBr.out 2 (.string x1.pkg))
  have HBr := Lib.hid (show ((((w2.setCell ⟨w.heap.size, 0, none⟩ (.string x0)).setCell ⟨w.heap.size, 1, none⟩ (.int .i64 x1.kind)).setCell ⟨w.heap.size, 2, none⟩ (.string x1.pkg)).setCell ⟨w.heap.size, 3, none⟩ (.string x1.name)).heap[w.heap.size]? = some (.cells #[.string x0, .int .i64 x1.kind, .string x1.pkg, .string x1.name, .slice none 0 0, .slice none 0 0] 93 (0, 0)) from set_at HBr.out 3 (.string x1.name))
  have HBr := Lib.hid (show (((((w2.setCell ⟨w.heap.size, 0, none⟩ (.string x0)).setCell ⟨w.heap.size, 1, none⟩ (.int .i64 x1.kind)).setCell ⟨w.heap.size, 2, none⟩ (.string x1.pkg)).setCell ⟨w.heap.size, 3, none⟩ (.string x1.name)).setCell ⟨w.heap.size, 4, none⟩ (.slice A1a x1.args.length c1a)).heap[w.heap.size]? = some (.cells #[.string x0, .int .i64 x1.kind, .string x1.pkg, .string x1.name, .slice A1a x1.args.length c1a, .slice none 0 0] 93 (0, 0)) from set_at HBr.out 4 (.slice A1a x1.args.length c1a))
  have HBr := Lib.hid (show ((((((w2.setCell ⟨w.heap.size, 0, none⟩ (.string x0)).setCell ⟨w.heap.size, 1, none⟩ (.int .i64 x1.kind)).setCell ⟨w.heap.size, 2, none⟩ (.string x1.pkg)).setCell ⟨w.heap.size, 3, none⟩ (.string x1.name)).setCell ⟨w.heap.size, 4, none⟩ (.slice A1a x1.args.length c1a)).setCell ⟨w.heap.size, 5, none⟩ (.slice A1b x1.res.length c1b)).heap[w.heap.size]? = some (.cells #[.string x0, .int .i64 x1.kind, .string x1.pkg, .string x1.name, .slice A1a x1.args.length c1a, .slice A1b x1.res.length c1b] 93 (0, 0)) from set_at HBr.out 5 (.slice A1b x1.res.length c1b))
  have HS := Lib.hid (HS.out.keep hset (fun q => by have := HBR.out; omega) (fun k q => by have := HW0.out; omega))
  have HC := Lib.hid (HC.out.trans hset (fun i hi q => by omega))
  have HY1a := Lib.hid (HY1a.out.later hset (fun k q => by have := HN1.out; omega))
  have HY1b := Lib.hid (HY1b.out.later hset (fun k q => by have := HN1.out; omega))
  clear hset
  have hd : ∀ (i : Nat) (v : Value), ([.string x0, .int .i64 x1.kind, .string x1.pkg, .string x1.name, .slice A1a x1.args.length c1a, .slice A1b x1.res.length c1b] : List Value)[i]? = some v → ((((((w2.setCell ⟨w.heap.size, 0, none⟩ (.string x0)).setCell ⟨w.heap.size, 1, none⟩ (.int .i64 x1.kind)).setCell ⟨w.heap.size, 2, none⟩ (.string x1.pkg)).setCell ⟨w.heap.size, 3, none⟩ (.string x1.name)).setCell ⟨w.heap.size, 4, none⟩ (.slice A1a x1.args.length c1a)).setCell ⟨w.heap.size, 5, none⟩ (.slice A1b x1.res.length c1b)).cell? ⟨w.heap.size, i, none⟩ = some v := fun i v q => by rw [cell_at HBr.out]; simpa using q
  have HD := Lib.hid hd; clear hd
  go_wp2_with fail
  refine bodyPost_ret (v := .agg #[.string x0, .int .i64 x1.kind, .string x1.pkg, .string x1.name, .slice A1a x1.args.length c1a, .slice A1b x1.res.length c1b]) (by have d0 := HD.out 0 _ rfl; have d1 := HD.out 1 _ rfl; have d2 := HD.out 2 _ rfl; have d3 := HD.out 3 _ rfl; have d4 := HD.out 4 _ rfl; have d5 := HD.out 5 _ rfl; simp [results, Try.results73, go_sem, d0, d1, d2, d3, d4, d5]) rfl ?_
  rw [HT.out]
  exact ⟨_, rfl, ⟨_, rfl, Fld.shut (w := NewW w.heap.size none _) (t := (Fld.mk x0 x1)) HX0.out HX1.out.1 HX1.out.2.1 HX1.out.2.2 (HY1a.out.low (by have := HN1.out; omega)) (HY1b.out.low (by have := HN1.out; omega))⟩, HS.out, HC.out⟩
set_option maxRecDepth 100000 in
set_option maxHeartbeats 3200000 in
theorem function_any (W0 : World) (br : Nat) (dp : Int) (e_body : Enters 76) (o_body : RdOne W0 br dp (statP 101) St.d 76) : RdOne W0 br dp functionP Fn.d 48 := by
  intro w l0 h
  have hA : Chg (fun _ => False) w (w.alloc (.cells #[.string ⟨#[]⟩, .bool false, .int .i64 0, .int .i64 0, .slice none 0 0] 67)) := (Chg.refl _ _).alloc _
  have HS := Lib.hid (h.keep hA id (fun _ q => q.elim))
  have HBr := Lib.hid (show (w.alloc (.cells #[.string ⟨#[]⟩, .bool false, .int .i64 0, .int .i64 0, .slice none 0 0] 67)).heap[w.heap.size]? = some (.cells #[.string ⟨#[]⟩, .bool false, .int .i64 0, .int .i64 0, .slice none 0 0] 67 (0, 0)) from alloc_at w _)
  have HBR := Lib.hid h.lt
  have HW0 := Lib.hid (show W0.heap.size ≤ w.heap.size from Nat.le_trans h.br_ge (Nat.le_of_lt h.lt))
  have HC := Lib.hid (hA.mono (S' := fun k => k = br) (fun _ _ q => q.elim))
  have HK := Lib.hid (show w.heap.size < (w.alloc (.cells #[.string ⟨#[]⟩, .bool false, .int .i64 0, .int .i64 0, .slice none 0 0] 67)).heap.size by simp)
  clear h hA
  go_enter Try.func48, Try.ntmps48
  go_wp2_with fail
  refine (rdtext_any W0 _ br l0 dp HS.out).mono ?_
  intro e w1 he
  rcases he.split with ⟨x0, l1, v0, hp, rfl, hv, hs, hc⟩ | ⟨hp, u, rfl, hc⟩
  case inr =>
    have HT := Lib.hid (show functionP l0 = none by rw [show functionP l0 = bindP (textP l0) (fun x0 l1 => bindP (truthP l1) fun x1 l2 => bindP (numP l2) fun x2 l3 => bindP (numP l3) fun x3 l4 => bindP (takesP (statP 101) l4) fun x4 l5 => some ((Fn.mk x0 x1 x2 x3 x4), l5)) from rfl, hp]; rfl)
    have HC := Lib.hid (HC.out.trans hc (fun _ _ e => e))
    clear hp hc he
    go_wp2_with fail
    refine ⟨rfl, ?_⟩
    rw [HT.out]
    exact ⟨_, rfl, HC.out⟩
  have HT := Lib.hid (show functionP l0 = bindP (truthP l1) fun x1 l2 => bindP (numP l2) fun x2 l3 => bindP (numP l3) fun x3 l4 => bindP (takesP (statP 101) l4) fun x4 l5 => some ((Fn.mk x0 x1 x2 x3 x4), l5) by rw [show functionP l0 = bindP (textP l0) (fun x0 l1 => bindP (truthP l1) fun x1 l2 => bindP (numP l2) fun x2 l3 => bindP (numP l3) fun x3 l4 => bindP (takesP (statP 101) l4) fun x4 l5 => some ((Fn.mk x0 x1 x2 x3 x4), l5)) from rfl, hp]; rfl)
  have HX0 := Lib.hid (show x0.size ≤ Reach by have h1 := textP_size hp; have h2 := HS.out.len; unfold Reach; omega)
  obtain rfl := (show v0 = .string x0 from hv)
  have HBr := Lib.hid (hc.heap HBr.out (by have := HBR.out; omega))
  have HN0 := Lib.hid (show w.heap.size < (w.alloc (.cells #[.string ⟨#[]⟩, .bool false, .int .i64 0, .int .i64 0, .slice none 0 0] 67)).heap.size ∧ br < (w.alloc (.cells #[.string ⟨#[]⟩, .bool false, .int .i64 0, .int .i64 0, .slice none 0 0] 67)).heap.size from ⟨HK.out, Nat.lt_of_lt_of_le HBR.out HC.out.size⟩)
  have HC := Lib.hid (HC.out.trans hc (fun _ _ e => e))
  have HS := Lib.hid hs
  have HNr := Lib.hid (lt_of_block HBr.out)
  clear hp hs hc he hv
  have HK1 := Lib.hid (show w.heap.size < w1.heap.size from HNr.out)
  have hA : Chg (fun _ => False) w1 (w1.alloc (.cells #[.string x0, .bool false, .int .i64 0, .int .i64 0, .slice none 0 0] 67)) := (Chg.refl _ _).alloc _
  have HBl := Lib.hid (show (w1.alloc (.cells #[.string x0, .bool false, .int .i64 0, .int .i64 0, .slice none 0 0] 67)).heap[w1.heap.size]? = some (.cells #[.string x0, .bool false, .int .i64 0, .int .i64 0, .slice none 0 0] 67 (0, 0)) from alloc_at w1 _)
  have HBr := Lib.hid (hA.heap HBr.out id)
  have HS := Lib.hid (HS.out.keep hA id (fun _ q => q.elim))
  have HC := Lib.hid (HC.out.trans hA (fun _ _ q => q.elim))
  clear hA
  have HNr := Lib.hid (lt_of_block HBr.out); have HNl := Lib.hid (lt_of_block HBl.out)
  go_wp2_with fail
  refine (rdtruth_any W0 _ br l1 dp HS.out).mono ?_
  intro e w2 he
  rcases he.split with ⟨x1, l2, v1, hp, rfl, hv, hs, hc⟩ | ⟨hp, u, rfl, hc⟩
  case inr =>
    have HT := Lib.hid (show functionP l0 = none by rw [HT.out, hp]; rfl)
    have HC := Lib.hid (HC.out.trans hc (fun _ _ e => e))
    clear hp hc he
    go_wp2_with fail
    refine ⟨rfl, ?_⟩
    rw [HT.out]
    exact ⟨_, rfl, HC.out⟩
  have HT := Lib.hid (show functionP l0 = bindP (numP l2) fun x2 l3 => bindP (numP l3) fun x3 l4 => bindP (takesP (statP 101) l4) fun x4 l5 => some ((Fn.mk x0 x1 x2 x3 x4), l5) by rw [HT.out, hp]; rfl)
  obtain rfl := (show v1 = .bool x1 from hv)
  have HBr := Lib.hid (hc.heap HBr.out (by have := HBR.out; omega))
  have HBl := Lib.hid (hc.heap HBl.out (by have := HBR.out; have := HK1.out; omega))
  have HN1 := Lib.hid (show w.heap.size < (w1.alloc (.cells #[.string x0, .bool false, .int .i64 0, .int .i64 0, .slice none 0 0] 67)).heap.size ∧ br < (w1.alloc (.cells #[.string x0, .bool false, .int .i64 0, .int .i64 0, .slice none 0 0] 67)).heap.size ∧ w1.heap.size < (w1.alloc (.cells #[.string x0, .bool false, .int .i64 0, .int .i64 0, .slice none 0 0] 67)).heap.size from ⟨HNr.out, Nat.lt_of_lt_of_le HBR.out HC.out.size, HNl.out⟩)
  have HC := Lib.hid (HC.out.trans hc (fun _ _ e => e))
  have HS := Lib.hid hs
  have HNr := Lib.hid (lt_of_block HBr.out)
  have HNl := Lib.hid (lt_of_block HBl.out)
  clear hp hs hc he hv
  have f1 := free_at HBl.out 1
  have c_1 : w2.cell? ⟨w1.heap.size, 1, none⟩ = some (.bool false) := (cell_at HBl.out 1).trans rfl
  have hset : Chg (fun k => k = w1.heap.size) w2 (w2.setCell ⟨w1.heap.size, 1, none⟩ (.bool x1)) := ((Chg.refl (fun k => k = w1.heap.size) w2).setCell (p := ⟨w1.heap.size, 1, none⟩) (fun _ => rfl) (.bool x1))
  have HBr := Lib.hid (hset.heap HBr.out (by have := HK1.out; omega))
  have HBl := Lib.hid (show (w2.setCell ⟨w1.heap.size, 1, none⟩ (.bool x1)).heap[w1.heap.size]? = some (.cells #[.string x0, .bool x1, .int .i64 0, .int .i64 0, .slice none 0 0] 67 (0, 0)) from set_at HBl.out 1 (.bool x1))
  have HS := Lib.hid (HS.out.keep hset (fun q => by have := HBR.out; have := HK1.out; omega) (fun k q => by have := HW0.out; have := HK1.out; omega))
  have HC := Lib.hid (HC.out.trans hset (fun i hi q => by have := HK1.out; omega))
  clear hset
  have HNr := Lib.hid (lt_of_block HBr.out); have HNl := Lib.hid (lt_of_block HBl.out)
  go_wp2_with fail
  clear f1 c_1
  refine (rdnum_any W0 _ br l2 dp HS.out).mono ?_
  intro e w3 he
  rcases he.split with ⟨x2, l3, v2, hp, rfl, hv, hs, hc⟩ | ⟨hp, u, rfl, hc⟩
  case inr =>
    have HT := Lib.hid (show functionP l0 = none by rw [HT.out, hp]; rfl)
    have HC := Lib.hid (HC.out.trans hc (fun _ _ e => e))
    clear hp hc he
    go_wp2_with fail
    refine ⟨rfl, ?_⟩
    rw [HT.out]
    exact ⟨_, rfl, HC.out⟩
  have HT := Lib.hid (show functionP l0 = bindP (numP l3) fun x3 l4 => bindP (takesP (statP 101) l4) fun x4 l5 => some ((Fn.mk x0 x1 x2 x3 x4), l5) by rw [HT.out, hp]; rfl)
  have HX2 := Lib.hid (numP_in hp)
  obtain rfl := (show v2 = .int .i64 x2 from hv)
  have HBr := Lib.hid (hc.heap HBr.out (by have := HBR.out; omega))
  have HBl := Lib.hid (hc.heap HBl.out (by have := HBR.out; have := HK1.out; omega))
  have HN2 := Lib.hid (show w.heap.size < (w2.setCell ⟨w1.heap.size, 1, none⟩ (.bool x1)).heap.size ∧ br < (w2.setCell ⟨w1.heap.size, 1, none⟩ (.bool x1)).heap.size ∧ w1.heap.size < (w2.setCell ⟨w1.heap.size, 1, none⟩ (.bool x1)).heap.size from ⟨HNr.out, Nat.lt_of_lt_of_le HBR.out HC.out.size, HNl.out⟩)
  have HC := Lib.hid (HC.out.trans hc (fun _ _ e => e))
  have HS := Lib.hid hs
  have HNr := Lib.hid (lt_of_block HBr.out)
  have HNl := Lib.hid (lt_of_block HBl.out)
  clear hp hs hc he hv
  have f2 := free_at HBl.out 2
  have c_2 : w3.cell? ⟨w1.heap.size, 2, none⟩ = some (.int .i64 0) := (cell_at HBl.out 2).trans rfl
  have hset : Chg (fun k => k = w1.heap.size) w3 (w3.setCell ⟨w1.heap.size, 2, none⟩ (.int .i64 x2)) := ((Chg.refl (fun k => k = w1.heap.size) w3).setCell (p := ⟨w1.heap.size, 2, none⟩) (fun _ => rfl) (.int .i64 x2))
  have HBr := Lib.hid (hset.heap HBr.out (by have := HK1.out; omega))
  have HBl := Lib.hid (show (w3.setCell ⟨w1.heap.size, 2, none⟩ (.int .i64 x2)).heap[w1.heap.size]? = some (.cells #[.string x0, .bool x1, .int .i64 x2, .int .i64 0, .slice none 0 0] 67 (0, 0)) from set_at HBl.out 2 (.int .i64 x2))
  have HS := Lib.hid (HS.out.keep hset (fun q => by have := HBR.out; have := HK1.out; omega) (fun k q => by have := HW0.out; have := HK1.out; omega))
  have HC := Lib.hid (HC.out.trans hset (fun i hi q => by have := HK1.out; omega))
  clear hset
  have HNr := Lib.hid (lt_of_block HBr.out); have HNl := Lib.hid (lt_of_block HBl.out)
  go_wp2_with fail
  clear f2 c_2
  refine (rdnum_any W0 _ br l3 dp HS.out).mono ?_
  intro e w4 he
  rcases he.split with ⟨x3, l4, v3, hp, rfl, hv, hs, hc⟩ | ⟨hp, u, rfl, hc⟩
  case inr =>
    have HT := Lib.hid (show functionP l0 = none by rw [HT.out, hp]; rfl)
    have HC := Lib.hid (HC.out.trans hc (fun _ _ e => e))
    clear hp hc he
    go_wp2_with fail
    refine ⟨rfl, ?_⟩
    rw [HT.out]
    exact ⟨_, rfl, HC.out⟩
  have HT := Lib.hid (show functionP l0 = bindP (takesP (statP 101) l4) fun x4 l5 => some ((Fn.mk x0 x1 x2 x3 x4), l5) by rw [HT.out, hp]; rfl)
  have HX3 := Lib.hid (numP_in hp)
  obtain rfl := (show v3 = .int .i64 x3 from hv)
  have HBr := Lib.hid (hc.heap HBr.out (by have := HBR.out; omega))
  have HBl := Lib.hid (hc.heap HBl.out (by have := HBR.out; have := HK1.out; omega))
  have HN3 := Lib.hid (show w.heap.size < (w3.setCell ⟨w1.heap.size, 2, none⟩ (.int .i64 x2)).heap.size ∧ br < (w3.setCell ⟨w1.heap.size, 2, none⟩ (.int .i64 x2)).heap.size ∧ w1.heap.size < (w3.setCell ⟨w1.heap.size, 2, none⟩ (.int .i64 x2)).heap.size from ⟨HNr.out, Nat.lt_of_lt_of_le HBR.out HC.out.size, HNl.out⟩)
  have HC := Lib.hid (HC.out.trans hc (fun _ _ e => e))
  have HS := Lib.hid hs
  have HNr := Lib.hid (lt_of_block HBr.out)
  have HNl := Lib.hid (lt_of_block HBl.out)
  clear hp hs hc he hv
  have f3 := free_at HBl.out 3
  have c_3 : w4.cell? ⟨w1.heap.size, 3, none⟩ = some (.int .i64 0) := (cell_at HBl.out 3).trans rfl
  have hset : Chg (fun k => k = w1.heap.size) w4 (w4.setCell ⟨w1.heap.size, 3, none⟩ (.int .i64 x3)) := ((Chg.refl (fun k => k = w1.heap.size) w4).setCell (p := ⟨w1.heap.size, 3, none⟩) (fun _ => rfl) (.int .i64 x3))
  have HBr := Lib.hid (hset.heap HBr.out (by have := HK1.out; omega))
  have HBl := Lib.hid (show (w4.setCell ⟨w1.heap.size, 3, none⟩ (.int .i64 x3)).heap[w1.heap.size]? = some (.cells #[.string x0, .bool x1, .int .i64 x2, .int .i64 x3, .slice none 0 0] 67 (0, 0)) from set_at HBl.out 3 (.int .i64 x3))
  have HS := Lib.hid (HS.out.keep hset (fun q => by have := HBR.out; have := HK1.out; omega) (fun k q => by have := HW0.out; have := HK1.out; omega))
  have HC := Lib.hid (HC.out.trans hset (fun i hi q => by have := HK1.out; omega))
  clear hset
  have HNr := Lib.hid (lt_of_block HBr.out); have HNl := Lib.hid (lt_of_block HBl.out)
  go_wp2_with fail
  clear f3 c_3
  refine (takesSt_any W0 _ br dp _ _ e_body o_body l4 HS.out).mono ?_
  intro e w5 he
  rcases he.split with ⟨x4, l5, v4, hp, rfl, hv, hs, hc⟩ | ⟨hp, u, rfl, hc⟩
  case inr =>
    have HT := Lib.hid (show functionP l0 = none by rw [HT.out, hp]; rfl)
    have HC := Lib.hid (HC.out.trans hc (fun _ _ e => e))
    clear hp hc he
    go_wp2_with fail
    refine ⟨rfl, ?_⟩
    rw [HT.out]
    exact ⟨_, rfl, HC.out⟩
  have HT := Lib.hid (show functionP l0 = some ((Fn.mk x0 x1 x2 x3 x4), l5) by rw [HT.out, hp]; rfl)
  obtain ⟨A4, c4, rfl, y⟩ := ValL.slSt hv
  have HY4 := Lib.hid y; clear y
  have HBr := Lib.hid (hc.heap HBr.out (by have := HBR.out; omega))
  have HBl := Lib.hid (hc.heap HBl.out (by have := HBR.out; have := HK1.out; omega))
  have HN4 := Lib.hid (show w.heap.size < (w4.setCell ⟨w1.heap.size, 3, none⟩ (.int .i64 x3)).heap.size ∧ br < (w4.setCell ⟨w1.heap.size, 3, none⟩ (.int .i64 x3)).heap.size ∧ w1.heap.size < (w4.setCell ⟨w1.heap.size, 3, none⟩ (.int .i64 x3)).heap.size from ⟨HNr.out, Nat.lt_of_lt_of_le HBR.out HC.out.size, HNl.out⟩)
  have HC := Lib.hid (HC.out.trans hc (fun _ _ e => e))
  have HS := Lib.hid hs
  have HNr := Lib.hid (lt_of_block HBr.out)
  have HNl := Lib.hid (lt_of_block HBl.out)
  clear hp hs hc he hv
  have f4 := free_at HBl.out 4
  have c_4 : w5.cell? ⟨w1.heap.size, 4, none⟩ = some (.slice none 0 0) := (cell_at HBl.out 4).trans rfl
  have hset : Chg (fun k => k = w1.heap.size) w5 (w5.setCell ⟨w1.heap.size, 4, none⟩ (.slice A4 x4.length c4)) := ((Chg.refl (fun k => k = w1.heap.size) w5).setCell (p := ⟨w1.heap.size, 4, none⟩) (fun _ => rfl) (.slice A4 x4.length c4))
  have HBr := Lib.hid (hset.heap HBr.out (by have := HK1.out; omega))
  have HBl := Lib.hid (show (w5.setCell ⟨w1.heap.size, 4, none⟩ (.slice A4 x4.length c4)).heap[w1.heap.size]? = some (.cells #[.string x0, .bool x1, .int .i64 x2, .int .i64 x3, .slice A4 x4.length c4] 67 (0, 0)) from set_at HBl.out 4 (.slice A4 x4.length c4))
  have HS := Lib.hid (HS.out.keep hset (fun q => by have := HBR.out; have := HK1.out; omega) (fun k q => by have := HW0.out; have := HK1.out; omega))
  have HC := Lib.hid (HC.out.trans hset (fun i hi q => by have := HK1.out; omega))
  have HY4 := Lib.hid (HY4.out.later hset (fun k q => by have := HN4.out; omega))
  clear hset
  have HNr := Lib.hid (lt_of_block HBr.out); have HNl := Lib.hid (lt_of_block HBl.out)
  have g_0 : (w5.setCell ⟨w1.heap.size, 4, none⟩ (.slice A4 x4.length c4)).cell? ⟨w1.heap.size, 0, none⟩ = some (.string x0) := (cell_at HBl.out 0).trans rfl
  have g_1 : (w5.setCell ⟨w1.heap.size, 4, none⟩ (.slice A4 x4.length c4)).cell? ⟨w1.heap.size, 1, none⟩ = some (.bool x1) := (cell_at HBl.out 1).trans rfl
  have g_2 : (w5.setCell ⟨w1.heap.size, 4, none⟩ (.slice A4 x4.length c4)).cell? ⟨w1.heap.size, 2, none⟩ = some (.int .i64 x2) := (cell_at HBl.out 2).trans rfl
  have g_3 : (w5.setCell ⟨w1.heap.size, 4, none⟩ (.slice A4 x4.length c4)).cell? ⟨w1.heap.size, 3, none⟩ = some (.int .i64 x3) := (cell_at HBl.out 3).trans rfl
  have g_4 : (w5.setCell ⟨w1.heap.size, 4, none⟩ (.slice A4 x4.length c4)).cell? ⟨w1.heap.size, 4, none⟩ = some (.slice A4 x4.length c4) := (cell_at HBl.out 4).trans rfl
  have r0 := free_at HBr.out 0
  have s_0 : (w5.setCell ⟨w1.heap.size, 4, none⟩ (.slice A4 x4.length c4)).cell? ⟨w.heap.size, 0, none⟩ = some (.string ⟨#[]⟩) := (cell_at HBr.out 0).trans rfl
  have r1 := free_at HBr.out 1
  have s_1 : (w5.setCell ⟨w1.heap.size, 4, none⟩ (.slice A4 x4.length c4)).cell? ⟨w.heap.size, 1, none⟩ = some (.bool false) := (cell_at HBr.out 1).trans rfl
  have r2 := free_at HBr.out 2
  have s_2 : (w5.setCell ⟨w1.heap.size, 4, none⟩ (.slice A4 x4.length c4)).cell? ⟨w.heap.size, 2, none⟩ = some (.int .i64 0) := (cell_at HBr.out 2).trans rfl
  have r3 := free_at HBr.out 3
  have s_3 : (w5.setCell ⟨w1.heap.size, 4, none⟩ (.slice A4 x4.length c4)).cell? ⟨w.heap.size, 3, none⟩ = some (.int .i64 0) := (cell_at HBr.out 3).trans rfl
  have r4 := free_at HBr.out 4
  have s_4 : (w5.setCell ⟨w1.heap.size, 4, none⟩ (.slice A4 x4.length c4)).cell? ⟨w.heap.size, 4, none⟩ = some (.slice none 0 0) := (cell_at HBr.out 4).trans rfl
  have hset : Chg (fun k => k = w.heap.size) (w5.setCell ⟨w1.heap.size, 4, none⟩ (.slice A4 x4.length c4)) ((((((w5.setCell ⟨w1.heap.size, 4, none⟩ (.slice A4 x4.length c4)).setCell ⟨w.heap.size, 0, none⟩ (.string x0)).setCell ⟨w.heap.size, 1, none⟩ (.bool x1)).setCell ⟨w.heap.size, 2, none⟩ (.int .i64 x2)).setCell ⟨w.heap.size, 3, none⟩ (.int .i64 x3)).setCell ⟨w.heap.size, 4, none⟩ (.slice A4 x4.length c4)) := ((((((Chg.refl (fun k => k = w.heap.size) (w5.setCell ⟨w1.heap.size, 4, none⟩ (.slice A4 x4.length c4))).setCell (p := ⟨w.heap.size, 0, none⟩) (fun _ => rfl) (.string x0)).setCell (p := ⟨w.heap.size, 1, none⟩) (fun _ => rfl) (.bool x1)).setCell (p := ⟨w.heap.size, 2, none⟩) (fun _ => rfl) (.int .i64 x2)).setCell (p := ⟨w.heap.size, 3, none⟩) (fun _ => rfl) (.int .i64 x3)).setCell (p := ⟨w.heap.size, 4, none⟩) (fun _ => rfl) (.slice A4 x4.length c4))
  have HBr := Lib.hid (show ((w5.setCell ⟨w1.heap.size, 4, none⟩ (.slice A4 x4.length c4)).setCell ⟨w.heap.size, 0, none⟩ (.string x0)).heap[w.heap.size]? = some (.cells #[.string x0, .bool false, .int .i64 0, .int .i64 0, .slice none 0 0] 67 (0, 0)) from set_at HBr.out 0 (.string x0))
  have HBr := Lib.hid (show (((w5.setCell ⟨w1.heap.size, 4, none⟩ (.slice A4 x4.length c4)).setCell ⟨w.heap.size, 0, none⟩ (.string x0)).setCell ⟨w.heap.size, 1, none⟩ (.bool x1)).heap[w.heap.size]? = some (.cells #[.string x0, .bool x1, .int .i64 0, .int .i64 0, .slice none 0 0] 67 (0, 0)) from set_at HBr.out 1 (.bool x1))
  have HBr := Lib.hid (show ((((w5.setCell ⟨w1.heap.size, 4, none⟩ (.slice A4 x4.length c4)).setCell ⟨w.heap.size, 0, none⟩ (.string x0)).setCell ⟨w.heap.size, 1, none⟩ (.bool x1)).setCell ⟨w.heap.size, 2, none⟩ (.int .i64 x2)).heap[w.heap.size]? = some (.cells #[.string x0, .bool x1, .int .i64 x2, .int .i64 0, .slice none 0 0] 67 (0, 0)) from set_at HBr.out 2 (.int .i64 x2))
  have HBr := Lib.hid (show (((((w5.setCell ⟨w1.heap.size, 4, none⟩ (.slice A4 x4.length c4)).setCell ⟨w.heap.size, 0, none⟩ (.string x0)).setCell ⟨w.heap.size, 1, none⟩ (.bool x1)).setCell ⟨w.heap.size, 2, none⟩ (.int .i64 x2)).setCell ⟨w.heap.size, 3, none⟩ (.int .i64 x3)).heap[w.heap.size]? = some (.cells #[.string x0, .bool x1, .int .i64 x2, .int .i64 x3, .slice none 0 0] 67 (0, 0)) from set_at HBr.out 3 (.int .i64 x3))
  have HBr := Lib.hid (show ((((((w5.setCell ⟨w1.heap.size, 4, none⟩ (.slice A4 x4.length c4)).setCell ⟨w.heap.size, 0, none⟩ (.string x0)).setCell ⟨w.heap.size, 1, none⟩ (.bool x1)).setCell ⟨w.heap.size, 2, none⟩ (.int .i64 x2)).setCell ⟨w.heap.size, 3, none⟩ (.int .i64 x3)).setCell ⟨w.heap.size, 4, none⟩ (.slice A4 x4.length c4)).heap[w.heap.size]? = some (.cells #[.string x0, .bool x1, .int .i64 x2, .int .i64 x3, .slice A4 x4.length c4] 67 (0, 0)) from set_at HBr.out 4 (.slice A4 x4.length c4))
  have HS := Lib.hid (HS.out.keep hset (fun q => by have := HBR.out; omega) (fun k q => by have := HW0.out; omega))
  have HC := Lib.hid (HC.out.trans hset (fun i hi q => by omega))
  have HY4 := Lib.hid (HY4.out.later hset (fun k q => by have := HN4.out; omega))
  clear hset
  have hd : ∀ (i : Nat) (v : Value), ([.string x0, .bool x1, .int .i64 x2, .int .i64 x3, .slice A4 x4.length c4] : List Value)[i]? = some v → ((((((w5.setCell ⟨w1.heap.size, 4, none⟩ (.slice A4 x4.length c4)).setCell ⟨w.heap.size, 0, none⟩ (.string x0)).setCell ⟨w.heap.size, 1, none⟩ (.bool x1)).setCell ⟨w.heap.size, 2, none⟩ (.int .i64 x2)).setCell ⟨w.heap.size, 3, none⟩ (.int .i64 x3)).setCell ⟨w.heap.size, 4, none⟩ (.slice A4 x4.length c4)).cell? ⟨w.heap.size, i, none⟩ = some v := fun i v q => by rw [cell_at HBr.out]; simpa using q
  have HD := Lib.hid hd; clear hd
  go_wp2_with fail
  refine bodyPost_ret (v := .agg #[.string x0, .bool x1, .int .i64 x2, .int .i64 x3, .slice A4 x4.length c4]) (by have d0 := HD.out 0 _ rfl; have d1 := HD.out 1 _ rfl; have d2 := HD.out 2 _ rfl; have d3 := HD.out 3 _ rfl; have d4 := HD.out 4 _ rfl; simp [results, Try.results48, go_sem, d0, d1, d2, d3, d4]) rfl ?_
  rw [HT.out]
  exact ⟨_, rfl, ⟨_, rfl, Fn.shut (w := NewW w.heap.size none _) (t := (Fn.mk x0 x1 x2 x3 x4)) HX0.out HX2.out HX3.out (HY4.out.low (by have := HN4.out; omega))⟩, HS.out, HC.out⟩
end Go.Proofs.Ytghnaaahkbnhlaa
