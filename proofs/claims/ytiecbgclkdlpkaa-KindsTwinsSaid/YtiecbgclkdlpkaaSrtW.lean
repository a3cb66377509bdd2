/-
  The walks of the small functions of a stable sort: ranges changed, turned, put in order. The conditions: the row is the call's own; it is not too long.
-/
import Derived.Test.YtiecbgclkdlpkaaSrtA
import Derived.Test.YtiecbgclkdlpkaaAppR
namespace Go.Proofs.Ytiecbgclkdlpkaa
open Go.RowKit
set_option linter.unusedVariables false
set_option linter.unusedSimpArgs false
attribute [local irreducible] wpStill wpOrd wpT

def SrtP (w : World) (g N n : Nat) (V : Cel) (q : Nat → Nat) (e : Ending) (w' : World) : Prop := e = .returned (.tuple #[]) ∧ SortR w' g N n V q ∧ Chg (fun j => j = g) w w'

set_option maxRecDepth 100000 in
set_option maxHeartbeats 3200000 in
theorem swr_any (w : World) (g N n c : Nat) (V : Cel) (p : Nat → Nat) (hn : n ≤ 1000000) (hc : n ≤ c) (H : SortR w g N n V p) (a b k : Nat) (fv : Value) (h1 : a + k ≤ b) (h2 : b + k ≤ n) :
    Calls Try.prog 81 #[.slice (some ⟨g, 0, none⟩) n c, .int .i64 a, .int .i64 b, .int .i64 k, fv] w (SrtP w g N n V (swr p a b k)) := by
  have HH := Lib.hid H
  clear H
  go_enter Try.func81, Try.ntmps81
  go_wp2_with fail
  go_loopw [10] (fun i wr => ∃ t : Nat, t ≤ k ∧ i = .int .i64 t ∧ SortR wr g N n V (swr p a b t) ∧ Chg (fun j => j = g) w wr) (fun i _ => k - (intOf i).toNat)
  case atStart => exact ⟨0, Nat.zero_le _, rfl, HH.out.congr (swr_zero p a b), Chg.refl _ _⟩
  case round =>
    obtain ⟨t, ht, rfl, hS, hC⟩ := hrel
    have HS := Lib.hid hS; have HC := Lib.hid hC
    clear hS hC
    by_cases hlt : t < k
    · have hlt' : (t : Int) < k := by omega
      obtain ⟨x, hx⟩ : ∃ x, x = a + t := ⟨_, rfl⟩
      obtain ⟨y, hy⟩ : ∃ y, y = b + t := ⟨_, rfl⟩
      have HNX := Lib.hid (show ∀ z, swp (swr p a b t) x y z = swr p a b (t + 1) z by rw [hx, hy]; exact swr_next p a b t (by omega))
      have ex : (a : Int) + (t : Int) = (x : Int) := by omega
      have ey : (b : Int) + (t : Int) = (y : Int) := by omega
      have hxn : (x : Int) < n := by omega
      have hyn : (y : Int) < n := by omega
      have wx_ : IntKind.i64.wrap (x : Int) = (x : Int) := by rw [IntKind.wrap_i64]; omega
      have wy_ : IntKind.i64.wrap (y : Int) = (y : Int) := by rw [IntKind.wrap_i64]; omega
      clear hx hy
      go_wp2_with fail
      have HXN := Lib.hid (show x < n from by omega); have HYN := Lib.hid (show y < n from by omega)
      refine wp_region_otN (fun _ => True) (.get 0 (.get 1 (.get 2 (.get 3 (.get 4 (.get 5 (.get 6 (.get 7 (.get 8 (.get 9 (.get 10 (.get 11 (.get 12 (.get 14 (.get 15 (.get 16 (.get 17 (.get 18 (.two 13 (.one 19 (.get 20 (.one 21 (.get 22 (.one 23 .done))))) 19 (.one 13 (.get 20 (.one 21 (.get 22 (.one 23 .done)))))))))))))))))))))))) (by kernel_rfl) (by kernel_rfl) trivial ?_
      apply wpT_get rfl
      · go_simp
      · intro wS hS
        go_simp
        try rfl
      intro K hK
      go_simp
      refine hK _ ?_
      clear hK K
      apply wpT_get rfl
      · go_simp
      · intro wS hS
        go_simp
        try rfl
      intro K hK
      go_simp
      refine hK _ ?_
      clear hK K
      apply wpT_get rfl
      · go_simp
      · intro wS hS
        go_simp
        try rfl
      intro K hK
      go_simp
      refine hK _ ?_
      clear hK K
      apply wpT_get rfl
      · go_simp
      · intro wS hS
        go_simp
        try rfl
      intro K hK
      go_simp
      refine hK _ ?_
      clear hK K
      apply wpT_get rfl
      · go_simp
      · intro wS hS
        go_simp
        try rfl
      intro K hK
      go_simp
      refine hK _ ?_
      clear hK K
      apply wpT_get rfl
      · go_simp
      · intro wS hS
        go_simp
        try rfl
      intro K hK
      go_simp
      refine hK _ ?_
      clear hK K
      apply wpT_get rfl
      · go_simp
      · intro wS hS
        go_simp
        try rfl
      intro K hK
      go_simp
      refine hK _ ?_
      clear hK K
      apply wpT_get rfl
      · go_simp
      · intro wS hS
        go_simp
        try rfl
      intro K hK
      go_simp
      refine hK _ ?_
      clear hK K
      apply wpT_get rfl
      · go_simp
      · intro wS hS
        go_simp
        try rfl
      intro K hK
      go_simp
      refine hK _ ?_
      clear hK K
      apply wpT_get rfl
      · go_simp
      · intro wS hS
        go_simp
        try rfl
      intro K hK
      go_simp
      refine hK _ ?_
      clear hK K
      apply wpT_get rfl
      · go_simp
      · intro wS hS
        go_simp
        try rfl
      intro K hK
      go_simp
      refine hK _ ?_
      clear hK K
      apply wpT_get rfl
      · go_simp
      · intro wS hS
        go_simp
        try rfl
      intro K hK
      go_simp
      refine hK _ ?_
      clear hK K
      apply wpT_get rfl
      · go_simp
      · intro wS hS
        go_simp
        try rfl
      intro K hK
      go_simp
      refine hK _ ?_
      clear hK K
      apply wpT_get rfl
      · go_simp
      · intro wS hS
        go_simp
        try rfl
      intro K hK
      go_simp
      refine hK _ ?_
      clear hK K
      apply wpT_get rfl
      · go_simp
      · intro wS hS
        go_simp
        try rfl
      intro K hK
      go_simp
      refine hK _ ?_
      clear hK K
      apply wpT_get rfl
      · go_simp
      · intro wS hS
        go_simp
        try rfl
      intro K hK
      go_simp
      refine hK _ ?_
      clear hK K
      apply wpT_get rfl
      · go_simp
      · intro wS hS
        go_simp
        try rfl
      intro K hK
      go_simp
      refine hK _ ?_
      clear hK K
      apply wpT_get rfl
      · go_simp
      · intro wS hS
        go_simp
        try rfl
      intro K hK
      go_simp
      refine hK _ ?_
      clear hK K
      refine wpT_two rfl rfl (fun K hK => ?_) (fun K hK => ?_)
      case refine_1 =>
        obtain ⟨⟨f0_, f1_, f2_, f3_, f4_, f5_⟩, _⟩ := HS.out.cell HYN.out
        go_wp2_with fail
        clear f0_ f1_ f2_ f3_ f4_ f5_
        refine hK _ _ trivial ?_
        clear hK K
        refine wpT_one rfl (fun K hK => ?_)
        obtain ⟨⟨f0_, f1_, f2_, f3_, f4_, f5_⟩, _⟩ := HS.out.cell HXN.out
        go_wp2_with fail
        clear f0_ f1_ f2_ f3_ f4_ f5_
        refine hK _ _ trivial ?_
        clear hK K
        apply wpT_get rfl
        · go_simp
        · intro wS hS
          go_simp
          try rfl
        intro K hK
        go_simp
        refine hK _ ?_
        clear hK K
        refine wpT_one rfl (fun K hK => ?_)
        obtain ⟨⟨f0_, f1_, f2_, f3_, f4_, f5_⟩, fz_⟩ := HS.out.cell HXN.out
        have z0_ := fz_ (x * 6); have z1_ := fz_ (x * 6 + 1); have z2_ := fz_ (x * 6 + 2); have z3_ := fz_ (x * 6 + 3); have z4_ := fz_ (x * 6 + 4); have z5_ := fz_ (x * 6 + 5)
        have lt_ := HS.out.lt
        go_wp2_with fail
        clear f0_ f1_ f2_ f3_ f4_ f5_ fz_ z0_ z1_ z2_ z3_ z4_ z5_ lt_
        refine hK _ _ trivial ?_
        clear hK K
        have hs1 := SortR.store (w := wr) HS.out HXN.out ((swr p a b t) y)
        obtain ⟨w1, hw1⟩ : ∃ z, z = ((((((wr.setCell ⟨g, x * 6, none⟩ (.string (V.key ((swr p a b t) y)))).setCell ⟨g, x * 6 + 1, none⟩ (.int .i64 (V.kind ((swr p a b t) y)))).setCell ⟨g, x * 6 + 2, none⟩ (.string (V.pkg ((swr p a b t) y)))).setCell ⟨g, x * 6 + 3, none⟩ (.string (V.name ((swr p a b t) y)))).setCell ⟨g, x * 6 + 4, none⟩ (.slice (V.a4 ((swr p a b t) y)) (V.n4 ((swr p a b t) y)) (V.d4 ((swr p a b t) y)))).setCell ⟨g, x * 6 + 5, none⟩ (.slice (V.a5 ((swr p a b t) y)) (V.n5 ((swr p a b t) y)) (V.d5 ((swr p a b t) y)))).drew := ⟨_, rfl⟩
        have hs1 : SortR w1 g N n V (fun z => if z = x then (swr p a b t) y else (swr p a b t) z) := by rw [hw1]; exact hs1.drew
        have hc1 : Chg (fun j => j = g) wr w1 := by rw [hw1]; exact (set6_chg wr g (x * 6) (.string (V.key ((swr p a b t) y))) (.int .i64 (V.kind ((swr p a b t) y))) (.string (V.pkg ((swr p a b t) y))) (.string (V.name ((swr p a b t) y))) (.slice (V.a4 ((swr p a b t) y)) (V.n4 ((swr p a b t) y)) (V.d4 ((swr p a b t) y))) (.slice (V.a5 ((swr p a b t) y)) (V.n5 ((swr p a b t) y)) (V.d5 ((swr p a b t) y)))).drew
        rw [← hw1]
        have HS1 := Lib.hid hs1; have HC1 := Lib.hid hc1
        clear hs1 hc1 hw1
        apply wpT_get rfl
        · go_simp
        · intro wS hS
          go_simp
          try rfl
        intro K hK
        go_simp
        refine hK _ ?_
        clear hK K
        refine wpT_one rfl (fun K hK => ?_)
        obtain ⟨⟨f0_, f1_, f2_, f3_, f4_, f5_⟩, fz_⟩ := HS1.out.cell HYN.out
        have z0_ := fz_ (y * 6); have z1_ := fz_ (y * 6 + 1); have z2_ := fz_ (y * 6 + 2); have z3_ := fz_ (y * 6 + 3); have z4_ := fz_ (y * 6 + 4); have z5_ := fz_ (y * 6 + 5)
        have lt_ := HS1.out.lt
        go_wp2_with fail
        clear f0_ f1_ f2_ f3_ f4_ f5_ fz_ z0_ z1_ z2_ z3_ z4_ z5_ lt_
        refine hK _ _ trivial ?_
        clear hK K
        have hs2 := HS1.out.store HYN.out ((swr p a b t) x)
        obtain ⟨w2, hw2⟩ : ∃ z, z = ((((((w1.setCell ⟨g, y * 6, none⟩ (.string (V.key ((swr p a b t) x)))).setCell ⟨g, y * 6 + 1, none⟩ (.int .i64 (V.kind ((swr p a b t) x)))).setCell ⟨g, y * 6 + 2, none⟩ (.string (V.pkg ((swr p a b t) x)))).setCell ⟨g, y * 6 + 3, none⟩ (.string (V.name ((swr p a b t) x)))).setCell ⟨g, y * 6 + 4, none⟩ (.slice (V.a4 ((swr p a b t) x)) (V.n4 ((swr p a b t) x)) (V.d4 ((swr p a b t) x)))).setCell ⟨g, y * 6 + 5, none⟩ (.slice (V.a5 ((swr p a b t) x)) (V.n5 ((swr p a b t) x)) (V.d5 ((swr p a b t) x)))) := ⟨_, rfl⟩
        have hs2 : SortR w2 g N n V (swp (swr p a b t) x y) := by rw [hw2]; exact hs2.swapped
        have hc2 : Chg (fun j => j = g) wr w2 := by rw [hw2]; exact HC1.out.trans (set6_chg w1 g (y * 6) (.string (V.key ((swr p a b t) x))) (.int .i64 (V.kind ((swr p a b t) x))) (.string (V.pkg ((swr p a b t) x))) (.string (V.name ((swr p a b t) x))) (.slice (V.a4 ((swr p a b t) x)) (V.n4 ((swr p a b t) x)) (V.d4 ((swr p a b t) x))) (.slice (V.a5 ((swr p a b t) x)) (V.n5 ((swr p a b t) x)) (V.d5 ((swr p a b t) x)))) (fun _ _ e => e)
        rw [← hw2]
        have HS2 := Lib.hid hs2; have HC2 := Lib.hid hc2
        clear hs2 hc2 hw2 HS1 HC1
        refine wpT_doneN ?_
        go_wp2_with fail
        go_roundw
        case rel => exact ⟨t + 1, by omega, by go_num, HS2.out.congr (fun z => (HNX.out z).symm), HC.out.trans HC2.out (fun _ _ e => e)⟩
        case measure => simp [intOf]; omega
      case refine_2 =>
        obtain ⟨⟨f0_, f1_, f2_, f3_, f4_, f5_⟩, _⟩ := HS.out.cell HXN.out
        go_wp2_with fail
        clear f0_ f1_ f2_ f3_ f4_ f5_
        refine hK _ _ trivial ?_
        clear hK K
        refine wpT_one rfl (fun K hK => ?_)
        obtain ⟨⟨f0_, f1_, f2_, f3_, f4_, f5_⟩, _⟩ := HS.out.cell HYN.out
        go_wp2_with fail
        clear f0_ f1_ f2_ f3_ f4_ f5_
        refine hK _ _ trivial ?_
        clear hK K
        apply wpT_get rfl
        · go_simp
        · intro wS hS
          go_simp
          try rfl
        intro K hK
        go_simp
        refine hK _ ?_
        clear hK K
        refine wpT_one rfl (fun K hK => ?_)
        obtain ⟨⟨f0_, f1_, f2_, f3_, f4_, f5_⟩, fz_⟩ := HS.out.cell HXN.out
        have z0_ := fz_ (x * 6); have z1_ := fz_ (x * 6 + 1); have z2_ := fz_ (x * 6 + 2); have z3_ := fz_ (x * 6 + 3); have z4_ := fz_ (x * 6 + 4); have z5_ := fz_ (x * 6 + 5)
        have lt_ := HS.out.lt
        go_wp2_with fail
        clear f0_ f1_ f2_ f3_ f4_ f5_ fz_ z0_ z1_ z2_ z3_ z4_ z5_ lt_
        refine hK _ _ trivial ?_
        clear hK K
        have hs1 := SortR.store (w := wr) HS.out HXN.out ((swr p a b t) y)
        obtain ⟨w1, hw1⟩ : ∃ z, z = ((((((wr.setCell ⟨g, x * 6, none⟩ (.string (V.key ((swr p a b t) y)))).setCell ⟨g, x * 6 + 1, none⟩ (.int .i64 (V.kind ((swr p a b t) y)))).setCell ⟨g, x * 6 + 2, none⟩ (.string (V.pkg ((swr p a b t) y)))).setCell ⟨g, x * 6 + 3, none⟩ (.string (V.name ((swr p a b t) y)))).setCell ⟨g, x * 6 + 4, none⟩ (.slice (V.a4 ((swr p a b t) y)) (V.n4 ((swr p a b t) y)) (V.d4 ((swr p a b t) y)))).setCell ⟨g, x * 6 + 5, none⟩ (.slice (V.a5 ((swr p a b t) y)) (V.n5 ((swr p a b t) y)) (V.d5 ((swr p a b t) y)))).drew := ⟨_, rfl⟩
        have hs1 : SortR w1 g N n V (fun z => if z = x then (swr p a b t) y else (swr p a b t) z) := by rw [hw1]; exact hs1.drew
        have hc1 : Chg (fun j => j = g) wr w1 := by rw [hw1]; exact (set6_chg wr g (x * 6) (.string (V.key ((swr p a b t) y))) (.int .i64 (V.kind ((swr p a b t) y))) (.string (V.pkg ((swr p a b t) y))) (.string (V.name ((swr p a b t) y))) (.slice (V.a4 ((swr p a b t) y)) (V.n4 ((swr p a b t) y)) (V.d4 ((swr p a b t) y))) (.slice (V.a5 ((swr p a b t) y)) (V.n5 ((swr p a b t) y)) (V.d5 ((swr p a b t) y)))).drew
        rw [← hw1]
        have HS1 := Lib.hid hs1; have HC1 := Lib.hid hc1
        clear hs1 hc1 hw1
        apply wpT_get rfl
        · go_simp
        · intro wS hS
          go_simp
          try rfl
        intro K hK
        go_simp
        refine hK _ ?_
        clear hK K
        refine wpT_one rfl (fun K hK => ?_)
        obtain ⟨⟨f0_, f1_, f2_, f3_, f4_, f5_⟩, fz_⟩ := HS1.out.cell HYN.out
        have z0_ := fz_ (y * 6); have z1_ := fz_ (y * 6 + 1); have z2_ := fz_ (y * 6 + 2); have z3_ := fz_ (y * 6 + 3); have z4_ := fz_ (y * 6 + 4); have z5_ := fz_ (y * 6 + 5)
        have lt_ := HS1.out.lt
        go_wp2_with fail
        clear f0_ f1_ f2_ f3_ f4_ f5_ fz_ z0_ z1_ z2_ z3_ z4_ z5_ lt_
        refine hK _ _ trivial ?_
        clear hK K
        have hs2 := HS1.out.store HYN.out ((swr p a b t) x)
        obtain ⟨w2, hw2⟩ : ∃ z, z = ((((((w1.setCell ⟨g, y * 6, none⟩ (.string (V.key ((swr p a b t) x)))).setCell ⟨g, y * 6 + 1, none⟩ (.int .i64 (V.kind ((swr p a b t) x)))).setCell ⟨g, y * 6 + 2, none⟩ (.string (V.pkg ((swr p a b t) x)))).setCell ⟨g, y * 6 + 3, none⟩ (.string (V.name ((swr p a b t) x)))).setCell ⟨g, y * 6 + 4, none⟩ (.slice (V.a4 ((swr p a b t) x)) (V.n4 ((swr p a b t) x)) (V.d4 ((swr p a b t) x)))).setCell ⟨g, y * 6 + 5, none⟩ (.slice (V.a5 ((swr p a b t) x)) (V.n5 ((swr p a b t) x)) (V.d5 ((swr p a b t) x)))) := ⟨_, rfl⟩
        have hs2 : SortR w2 g N n V (swp (swr p a b t) x y) := by rw [hw2]; exact hs2.swapped
        have hc2 : Chg (fun j => j = g) wr w2 := by rw [hw2]; exact HC1.out.trans (set6_chg w1 g (y * 6) (.string (V.key ((swr p a b t) x))) (.int .i64 (V.kind ((swr p a b t) x))) (.string (V.pkg ((swr p a b t) x))) (.string (V.name ((swr p a b t) x))) (.slice (V.a4 ((swr p a b t) x)) (V.n4 ((swr p a b t) x)) (V.d4 ((swr p a b t) x))) (.slice (V.a5 ((swr p a b t) x)) (V.n5 ((swr p a b t) x)) (V.d5 ((swr p a b t) x)))) (fun _ _ e => e)
        rw [← hw2]
        have HS2 := Lib.hid hs2; have HC2 := Lib.hid hc2
        clear hs2 hc2 hw2 HS1 HC1
        refine wpT_doneN ?_
        go_wp2_with fail
        go_roundw
        case rel => exact ⟨t + 1, by omega, by go_num, HS2.out.congr (fun z => (HNX.out z).symm), HC.out.trans HC2.out (fun _ _ e => e)⟩
        case measure => simp [intOf]; omega
    · obtain rfl : t = k := by omega
      go_wp2_with fail
      go_end0
      exact ⟨rfl, HS.out, HC.out⟩
set_option maxRecDepth 100000 in
set_option maxHeartbeats 3200000 in
theorem rot_any (w : World) (g N n c : Nat) (V : Cel) (p : Nat → Nat) (hn : n ≤ 1000000) (hc : n ≤ c) (H : SortR w g N n V p) (a m b : Nat) (fv : Value) (h1 : a < m) (h2 : m < b) (h3 : b ≤ n) :
    Calls Try.prog 80 #[.slice (some ⟨g, 0, none⟩) n c, .int .i64 a, .int .i64 m, .int .i64 b, fv] w (SrtP w g N n V (rot p a m b)) := by
  have HH := Lib.hid H
  clear H
  obtain ⟨i0, hi0⟩ : ∃ x, x = m - a := ⟨_, rfl⟩
  obtain ⟨j0, hj0⟩ : ∃ x, x = b - m := ⟨_, rfl⟩
  have ei0 : (m : Int) - (a : Int) = (i0 : Int) := by omega
  have ej0 : (b : Int) - (m : Int) = (j0 : Int) := by omega
  have wi0 : IntKind.i64.wrap (i0 : Int) = (i0 : Int) := by rw [IntKind.wrap_i64]; omega
  have wj0 : IntKind.i64.wrap (j0 : Int) = (j0 : Int) := by rw [IntKind.wrap_i64]; omega
  have HI0 := Lib.hid hi0; have HJ0 := Lib.hid hj0
  clear hi0 hj0
  go_enter Try.func80, Try.ntmps80
  go_wp2_with fail
  go_loopw [10, 11] (fun si sj wr => ∃ (i j : Nat) (q : Nat → Nat), 0 < i ∧ 0 < j ∧ i ≤ m - a ∧ j ≤ b - m ∧ si = .int .i64 i ∧ sj = .int .i64 j ∧ SortR wr g N n V q ∧ (∀ x, rot q (m - i) m (m + j) x = rot p a m b x) ∧ Chg (fun j => j = g) w wr) (fun si sj _ => (intOf si).toNat + (intOf sj).toNat)
  case atStart => exact ⟨i0, j0, p, by have := HI0.out; omega, by have := HJ0.out; omega, by have := HI0.out; omega, by have := HJ0.out; omega, rfl, rfl, HH.out, fun x => by rw [HI0.out, HJ0.out, show m - (m - a) = a by omega, show m + (b - m) = b by omega], Chg.refl _ _⟩
  case round =>
    obtain ⟨i, j, q, hi, hj, hia, hjb, rfl, rfl, hS, hR, hC⟩ := hrel
    have HS := Lib.hid hS; have HC := Lib.hid hC; have HR := Lib.hid hR
    clear hS hC hR
    obtain ⟨x, hx⟩ : ∃ x, x = m - i := ⟨_, rfl⟩
    have ex : (m : Int) - (i : Int) = (x : Int) := by omega
    have wx_ : IntKind.i64.wrap (x : Int) = (x : Int) := by rw [IntKind.wrap_i64]; omega
    have hcase : i = j ∨ j < i ∨ i < j := by omega
    rcases hcase with he | hlt | hlt
    · subst he
      have HF := Lib.hid (show ∀ z, swr q x m i z = rot p a m b z from fun z => by rw [hx, rot_last q (by omega), HR.out])
      have HQ := Lib.hid (show x + i ≤ m ∧ m + i ≤ n by omega)
      clear hx
      have hnn : ((i : Int) != (i : Int)) = false := by simp
      go_wp2_with fail
      refine (swr_any wr g N n c V q hn hc HS.out x m i fv HQ.out.1 HQ.out.2).mono ?_
      rintro e w2 ⟨rfl, hs2, hc2⟩
      have HS2 := Lib.hid (hs2.congr (fun z => (HF.out z).symm)); have HC2 := Lib.hid (HC.out.trans hc2 (fun _ _ e => e))
      clear hs2 hc2
      go_wp2_with fail
      go_end0
      exact ⟨rfl, HS2.out, HC2.out⟩
    · have hnn : ((i : Int) != (j : Int)) = true := by simp only [bne_iff_ne, ne_eq]; omega
      have hgt : (j : Int) < (i : Int) := by omega
      obtain ⟨z, hz⟩ : ∃ z, z = i - j := ⟨_, rfl⟩
      have ez : (i : Int) - (j : Int) = (z : Int) := by omega
      have wz_ : IntKind.i64.wrap (z : Int) = (z : Int) := by rw [IntKind.wrap_i64]; omega
      have HF := Lib.hid (show ∀ y, rot (swr q x m j) (m - z) m (m + j) y = rot p a m b y from fun y => by rw [hx, hz, rot_left q (by omega) hlt, HR.out])
      have HQ := Lib.hid (show x + j ≤ m ∧ m + j ≤ n by omega)
      have HZ := Lib.hid hz
      clear hx hz
      go_wp2_with fail
      refine (swr_any wr g N n c V q hn hc HS.out x m j fv HQ.out.1 HQ.out.2).mono ?_
      rintro e w2 ⟨rfl, hs2, hc2⟩
      have HS2 := Lib.hid hs2; have HC2 := Lib.hid (HC.out.trans hc2 (fun _ _ e => e))
      clear hs2 hc2
      go_wp2_with fail
      go_roundw
      case rel => exact ⟨z, j, _, by have := HZ.out; omega, hj, by have := HZ.out; omega, hjb, by go_num, rfl, HS2.out, HF.out, HC2.out⟩
      case measure => simp [intOf]; omega
    · have hnn : ((i : Int) != (j : Int)) = true := by simp only [bne_iff_ne, ne_eq]; omega
      have hgt : ¬ (j : Int) < (i : Int) := by omega
      obtain ⟨y, hy⟩ : ∃ y, y = m + j := ⟨_, rfl⟩
      obtain ⟨z, hz⟩ : ∃ z, z = y - i := ⟨_, rfl⟩
      obtain ⟨u, hu⟩ : ∃ u, u = j - i := ⟨_, rfl⟩
      have ey : (m : Int) + (j : Int) = (y : Int) := by omega
      have ez : (y : Int) - (i : Int) = (z : Int) := by omega
      have eu : (j : Int) - (i : Int) = (u : Int) := by omega
      have wy_ : IntKind.i64.wrap (y : Int) = (y : Int) := by rw [IntKind.wrap_i64]; omega
      have wz_ : IntKind.i64.wrap (z : Int) = (z : Int) := by rw [IntKind.wrap_i64]; omega
      have wu_ : IntKind.i64.wrap (u : Int) = (u : Int) := by rw [IntKind.wrap_i64]; omega
      have HF := Lib.hid (show ∀ v, rot (swr q x z i) (m - i) m (m + u) v = rot p a m b v from fun v => by rw [hx, hz, hu, hy, rot_right q (by omega) hlt, HR.out])
      have HQ := Lib.hid (show x + i ≤ z ∧ z + i ≤ n by omega)
      have HU := Lib.hid hu
      clear hx hy hz hu
      go_wp2_with fail
      refine (swr_any wr g N n c V q hn hc HS.out x z i fv HQ.out.1 HQ.out.2).mono ?_
      rintro e w2 ⟨rfl, hs2, hc2⟩
      have HS2 := Lib.hid hs2; have HC2 := Lib.hid (HC.out.trans hc2 (fun _ _ e => e))
      clear hs2 hc2
      go_wp2_with fail
      go_roundw
      case rel => exact ⟨i, u, _, hi, by have := HU.out; omega, hia, by have := HU.out; omega, rfl, by go_num, HS2.out, HF.out, HC2.out⟩
      case measure => simp [intOf]; omega
set_option maxRecDepth 100000 in
set_option maxHeartbeats 3200000 in
theorem ins_any (w : World) (g N n c : Nat) (V : Cel) (p : Nat → Nat) (hn : n ≤ 1000000) (hc : n ≤ c) (H : SortR w g N n V p) (a b : Nat) (h1 : a ≤ b) (h2 : b ≤ n) (hcr : ∀ x y, a ≤ x → x < y → y < b → p x < p y) :
    Calls Try.prog 76 #[.slice (some ⟨g, 0, none⟩) n c, .int .i64 a, .int .i64 b, .func (.func 60) #[] #[]] w (fun e w' => ∃ q, SrtP w g N n V q e w' ∧ Turn a b p q ∧ Sorted V.key q a b) := by
  have HH := Lib.hid H; have HCR := Lib.hid hcr
  clear H hcr
  obtain ⟨a1, ha1⟩ : ∃ x, x = a + 1 := ⟨_, rfl⟩
  have ea1 : (a : Int) + 1 = (a1 : Int) := by omega
  have wa1 : IntKind.i64.wrap (a1 : Int) = (a1 : Int) := by rw [IntKind.wrap_i64]; omega
  have HA1 := Lib.hid ha1
  clear ha1
  go_enter Try.func76, Try.ntmps76
  go_wp2_with fail
  go_loopw [8] (fun si wr => ∃ (i : Nat) (q : Nat → Nat), a + 1 ≤ i ∧ (i ≤ b ∨ i = a + 1) ∧ si = .int .i64 i ∧ SortR wr g N n V q ∧ Turn a i p q ∧ Turn a b p q ∧ Sorted V.key q a i ∧ Chg (fun j => j = g) w wr) (fun si _ => b - (intOf si).toNat)
  case atStart => exact ⟨a1, p, by have := HA1.out; omega, by have := HA1.out; omega, rfl, HH.out, Turn.refl _ _ _, Turn.refl _ _ _, Sorted.short (by have := HA1.out; omega), Chg.refl _ _⟩
  case round =>
    obtain ⟨i, q, hi, hib, rfl, hS, hT, hU, hO, hC⟩ := hrel
    have HS := Lib.hid hS; have HC := Lib.hid hC; have HT := Lib.hid hT; have HU := Lib.hid hU; have HO := Lib.hid hO
    clear hS hC hT hU hO
    by_cases hlt : i < b
    case neg =>
      have hlt' : ¬ (i : Int) < b := by omega
      go_wp2_with fail
      go_end0
      exact ⟨q, ⟨rfl, HS.out, HC.out⟩, HU.out, HO.out.sub (Nat.le_refl _) (by omega)⟩
    have hlt' : (i : Int) < b := by omega
    have HI0 := Lib.hid (Ins.start (key := V.key) (p := q) (a := a) (i := i) (by omega) HO.out (fun x h1 h2 => by
      obtain ⟨y, y1, y2, e⟩ := HT.out.from h1 h2
      rw [e, HT.out.out (.inr (Nat.le_refl _))]
      exact HCR.out y i y1 y2 (by omega)))
    obtain ⟨wo, rfl⟩ : ∃ wo, wo = wr := ⟨_, rfl⟩
    go_wp2_with fail
    go_loopw [9] (fun sj wr => ∃ (j : Nat) (r : Nat → Nat), a ≤ j ∧ j ≤ i ∧ sj = .int .i64 j ∧ SortR wr g N n V r ∧ Turn a (i + 1) q r ∧ Ins V.key r a i j ∧ Chg (fun j => j = g) wo wr) (fun sj _ => (intOf sj).toNat)
    case atStart => exact ⟨i, q, by omega, Nat.le_refl _, rfl, HS.out, Turn.refl _ _ _, HI0.out, Chg.refl _ _⟩
    case round =>
      obtain ⟨j, r, hja, hji, rfl, hS, hT, hI, hC⟩ := hrel
      have HS2 := Lib.hid hS; have HC2 := Lib.hid hC; have HT2 := Lib.hid hT; have HI := Lib.hid hI
      clear hS hC hT hI
      obtain ⟨i1, hi1⟩ : ∃ x, x = i + 1 := ⟨_, rfl⟩
      have ei1 : (i : Int) + 1 = (i1 : Int) := by omega
      have wi1 : IntKind.i64.wrap (i1 : Int) = (i1 : Int) := by rw [IntKind.wrap_i64]; omega
      have HI1 := Lib.hid hi1
      clear hi1
      by_cases hj : j = a
      case pos =>
        have HD := Lib.hid (HI.out.done (.inl hj))
        have HTB := Lib.hid (HU.out.trans (HT2.out.wide (Nat.le_refl _) (by omega : i + 1 ≤ b)))
        have HTI := Lib.hid ((HT.out.wide (Nat.le_refl _) (by omega : i ≤ i + 1)).trans HT2.out)
        have HCA := Lib.hid (HC.out.trans HC2.out (fun _ _ e => e))
        have hgt : ¬ (a : Int) < (j : Int) := by omega
        go_wp2_with fail
        refine wp_region_otN (fun wS => Chg (fun _ => False) wr wS) (.get 0 (.get 1 (.get 2 (.get 3 (.get 4 (.get 5 (.get 6 (.get 7 (.get 8 (.get 9 (.get 10 (.get 11 (.get 12 (.get 13 (.get 14 (.get 15 (.get 16 .done))))))))))))))))) (by kernel_rfl) (by kernel_rfl) (Chg.refl _ _).drew ?_
        apply wpT_get rfl
        · go_simp
        · intro wS hS
          go_simp
          try rfl
        intro K hK
        go_simp
        refine hK _ ?_
        clear hK K
        apply wpT_get rfl
        · go_simp
        · intro wS hS
          go_simp
          try rfl
        intro K hK
        go_simp
        refine hK _ ?_
        clear hK K
        apply wpT_get rfl
        · go_simp
        · intro wS hS
          go_simp
          try rfl
        intro K hK
        go_simp
        refine hK _ ?_
        clear hK K
        apply wpT_get rfl
        · go_simp
        · intro wS hS
          go_simp
          try rfl
        intro K hK
        go_simp
        refine hK _ ?_
        clear hK K
        apply wpT_skip rfl
        · go_simp
        intro K hK
        go_simp
        refine hK _ ?_
        clear hK K
        apply wpT_skip rfl
        · go_simp
        intro K hK
        go_simp
        refine hK _ ?_
        clear hK K
        apply wpT_skip rfl
        · go_simp
        intro K hK
        go_simp
        refine hK _ ?_
        clear hK K
        apply wpT_skip rfl
        · go_simp
        intro K hK
        go_simp
        refine hK _ ?_
        clear hK K
        apply wpT_skip rfl
        · go_simp
        intro K hK
        go_simp
        refine hK _ ?_
        clear hK K
        apply wpT_skip rfl
        · go_simp
        intro K hK
        go_simp
        refine hK _ ?_
        clear hK K
        apply wpT_skip rfl
        · go_simp
        intro K hK
        go_simp
        refine hK _ ?_
        clear hK K
        apply wpT_skip rfl
        · go_simp
        intro K hK
        go_simp
        refine hK _ ?_
        clear hK K
        apply wpT_skip rfl
        · go_simp
        intro K hK
        go_simp
        refine hK _ ?_
        clear hK K
        apply wpT_skip rfl
        · go_simp
        intro K hK
        go_simp
        refine hK _ ?_
        clear hK K
        apply wpT_skip rfl
        · go_simp
        intro K hK
        go_simp
        refine hK _ ?_
        clear hK K
        apply wpT_skip rfl
        · go_simp
        intro K hK
        go_simp
        refine hK _ ?_
        clear hK K
        apply wpT_get rfl
        · go_simp
        · intro wS hS
          go_simp
          try rfl
        intro K hK
        go_simp
        refine hK _ ?_
        clear hK K
        refine wpT_doneN ?_
        go_wp2_with fail
        go_roundw
        case rel => exact ⟨i + 1, r, by omega, by omega, by have := HI1.out; go_num, HS2.out.drew, HTI.out, HTB.out, HD.out, HCA.out.drew⟩
        case measure => simp [intOf]; omega
      obtain ⟨k, rfl⟩ : ∃ k, j = k + 1 := ⟨j - 1, by omega⟩
      obtain ⟨jj, hjj⟩ : ∃ x, x = k + 1 := ⟨_, rfl⟩
      have ej : ((k + 1 : Nat) : Int) = (jj : Int) := by omega
      have ek : (jj : Int) - 1 = (k : Int) := by omega
      have wk_ : IntKind.i64.wrap (k : Int) = (k : Int) := by rw [IntKind.wrap_i64]; omega
      have wj_ : IntKind.i64.wrap (jj : Int) = (jj : Int) := by rw [IntKind.wrap_i64]; omega
      have hgt : (a : Int) < (jj : Int) := by omega
      have hkn : (k : Int) < n := by omega
      have hjn : (jj : Int) < n := by omega
      have hk0 : k < n := by omega
      have hj0 : jj < n := by omega
      have HJ := Lib.hid hjj
      rw [ej]
      clear hjj ej
      obtain ⟨⟨f0, f1, f2, f3, f4, f5⟩, _⟩ := HS2.out.cell hj0
      obtain ⟨⟨g0, g1, g2, g3, g4, g5⟩, _⟩ := HS2.out.cell hk0
      go_wp2_with fail
      refine wp_region_otN (fun wS => Chg (fun _ => False) wr wS) (.get 0 (.get 1 (.get 2 (.get 3 (.get 4 (.get 5 (.get 6 (.get 7 (.get 8 (.get 9 (.get 10 (.get 11 (.get 12 (.get 13 (.one 14 (.get 15 (.get 16 .done))))))))))))))))) (by kernel_rfl) (by kernel_rfl) (Chg.refl _ _).drew ?_
      apply wpT_get rfl
      · go_simp
      · intro wS hS
        go_simp
        try rfl
      intro K hK
      go_simp
      refine hK _ ?_
      clear hK K
      apply wpT_get rfl
      · go_simp
      · intro wS hS
        go_simp
        try rfl
      intro K hK
      go_simp
      refine hK _ ?_
      clear hK K
      apply wpT_get rfl
      · go_simp
      · intro wS hS
        go_simp
        try rfl
      intro K hK
      go_simp
      refine hK _ ?_
      clear hK K
      apply wpT_get rfl
      · go_simp
      · intro wS hS
        go_simp
        try rfl
      intro K hK
      go_simp
      refine hK _ ?_
      clear hK K
      apply wpT_get rfl
      · go_simp
      · intro wS hS
        go_simp
        try rfl
      intro K hK
      go_simp
      refine hK _ ?_
      clear hK K
      apply wpT_get rfl
      · go_simp
      · intro wS hS
        go_simp
        try rfl
      intro K hK
      go_simp
      refine hK _ ?_
      clear hK K
      apply wpT_get rfl
      · go_simp
      · intro wS hS
        go_simp
        try rfl
      intro K hK
      go_simp
      refine hK _ ?_
      clear hK K
      apply wpT_get rfl
      · go_simp
      · intro wS hS
        go_simp
        try rfl
      intro K hK
      go_simp
      refine hK _ ?_
      clear hK K
      apply wpT_get rfl
      · go_simp
      · intro wS hS
        have x0 := hS.cell f0 id
        have x1 := hS.cell f1 id
        have x2 := hS.cell f2 id
        have x3 := hS.cell f3 id
        have x4 := hS.cell f4 id
        have x5 := hS.cell f5 id
        go_simp
        try rfl
      intro K hK
      go_simp
      refine hK _ ?_
      clear hK K
      apply wpT_get rfl
      · go_simp
      · intro wS hS
        go_simp
        try rfl
      intro K hK
      go_simp
      refine hK _ ?_
      clear hK K
      apply wpT_get rfl
      · go_simp
      · intro wS hS
        go_simp
        try rfl
      intro K hK
      go_simp
      refine hK _ ?_
      clear hK K
      apply wpT_get rfl
      · go_simp
      · intro wS hS
        go_simp
        try rfl
      intro K hK
      go_simp
      refine hK _ ?_
      clear hK K
      apply wpT_get rfl
      · go_simp
      · intro wS hS
        go_simp
        try rfl
      intro K hK
      go_simp
      refine hK _ ?_
      clear hK K
      apply wpT_get rfl
      · go_simp
      · intro wS hS
        have x0 := hS.cell g0 id
        have x1 := hS.cell g1 id
        have x2 := hS.cell g2 id
        have x3 := hS.cell g3 id
        have x4 := hS.cell g4 id
        have x5 := hS.cell g5 id
        go_simp
        try rfl
      intro K hK
      go_simp
      refine hK _ ?_
      clear hK K
      clear f0 f1 f2 f3 f4 f5 g0 g1 g2 g3 g4 g5
      refine wpT_one rfl (fun K hK => ?_)
      go_wp2_with fail
      refine (less_any wr.drew (V.key (r jj)) (V.key (r k)) _ _ _ _ _ _ _ _ _ _).mono ?_
      rintro e w2 ⟨⟨v, rfl, hv⟩, hb⟩
      have HV := Lib.hid hv
      have HC3 := Lib.hid (show Chg (fun _ => False) wr w2 from (Chg.refl _ wr).drew.trans (below_none hb) (fun _ _ e => e))
      clear hb hv
      go_wp2_with fail
      refine hK _ _ HC3.out ?_
      clear hK K
      have HS3 := Lib.hid (HS2.out.keepC HC3.out)
      cases z : lessB (V.key (r jj)) (V.key (r k)) with
      | true =>
        have HZ := Lib.hid z
        have hv0 : v < 0 := by have := HV.out; rw [z] at this; simpa using this
        clear z
        apply wpT_get rfl
        · go_simp
        · intro wS hS
          go_simp
          try rfl
        intro K hK
        go_simp
        refine hK _ ?_
        clear hK K
        apply wpT_get rfl
        · go_simp
        · intro wS hS
          go_simp
          try rfl
        intro K hK
        go_simp
        refine hK _ ?_
        clear hK K
        have HNI := Lib.hid (show Ins V.key (swp r jj k) a i k from (show Ins V.key r a i (k + 1) from HI.out).next (by omega) (by have := HZ.out; rw [HJ.out] at this; exact this) (fun x => by rw [HJ.out]))
        have HNT := Lib.hid (show Turn a (i + 1) q (swp r jj k) from HT2.out.trans (swp_turn r (by have := HJ.out; omega) (by have := HJ.out; omega) (by omega) (by omega)))
        have HCW := Lib.hid (HC2.out.trans HC3.out (fun _ _ q => q.elim))
        clear HS2 HC2 HC3 HV HZ
        obtain ⟨wr, hwv⟩ : ∃ wv, wv = w2 := ⟨_, rfl⟩
        rw [← hwv] at HS3 HCW
        rw [← hwv]
        clear hwv
        refine wpT_doneN ?_
        go_wp2_with fail
        have HXN := Lib.hid (show jj < n from hj0); have HYN := Lib.hid (show k < n from hk0)
        refine wp_region_otN (fun _ => True) (.get 0 (.get 1 (.get 2 (.get 3 (.get 4 (.get 5 (.get 6 (.get 7 (.get 8 (.get 10 (.get 11 (.get 12 (.two 9 (.one 13 (.get 14 (.one 15 (.get 16 (.one 17 .done))))) 13 (.one 9 (.get 14 (.one 15 (.get 16 (.one 17 .done)))))))))))))))))) (by kernel_rfl) (by kernel_rfl) trivial ?_
        apply wpT_get rfl
        · go_simp
        · intro wS hS
          go_simp
          try rfl
        intro K hK
        go_simp
        refine hK _ ?_
        clear hK K
        apply wpT_get rfl
        · go_simp
        · intro wS hS
          go_simp
          try rfl
        intro K hK
        go_simp
        refine hK _ ?_
        clear hK K
        apply wpT_get rfl
        · go_simp
        · intro wS hS
          go_simp
          try rfl
        intro K hK
        go_simp
        refine hK _ ?_
        clear hK K
        apply wpT_get rfl
        · go_simp
        · intro wS hS
          go_simp
          try rfl
        intro K hK
        go_simp
        refine hK _ ?_
        clear hK K
        apply wpT_get rfl
        · go_simp
        · intro wS hS
          go_simp
          try rfl
        intro K hK
        go_simp
        refine hK _ ?_
        clear hK K
        apply wpT_get rfl
        · go_simp
        · intro wS hS
          go_simp
          try rfl
        intro K hK
        go_simp
        refine hK _ ?_
        clear hK K
        apply wpT_get rfl
        · go_simp
        · intro wS hS
          go_simp
          try rfl
        intro K hK
        go_simp
        refine hK _ ?_
        clear hK K
        apply wpT_get rfl
        · go_simp
        · intro wS hS
          go_simp
          try rfl
        intro K hK
        go_simp
        refine hK _ ?_
        clear hK K
        apply wpT_get rfl
        · go_simp
        · intro wS hS
          go_simp
          try rfl
        intro K hK
        go_simp
        refine hK _ ?_
        clear hK K
        apply wpT_get rfl
        · go_simp
        · intro wS hS
          go_simp
          try rfl
        intro K hK
        go_simp
        refine hK _ ?_
        clear hK K
        apply wpT_get rfl
        · go_simp
        · intro wS hS
          go_simp
          try rfl
        intro K hK
        go_simp
        refine hK _ ?_
        clear hK K
        apply wpT_get rfl
        · go_simp
        · intro wS hS
          go_simp
          try rfl
        intro K hK
        go_simp
        refine hK _ ?_
        clear hK K
        refine wpT_two rfl rfl (fun K hK => ?_) (fun K hK => ?_)
        case refine_1 =>
          obtain ⟨⟨f0_, f1_, f2_, f3_, f4_, f5_⟩, _⟩ := HS3.out.cell HYN.out
          go_wp2_with fail
          clear f0_ f1_ f2_ f3_ f4_ f5_
          refine hK _ _ trivial ?_
          clear hK K
          refine wpT_one rfl (fun K hK => ?_)
          obtain ⟨⟨f0_, f1_, f2_, f3_, f4_, f5_⟩, _⟩ := HS3.out.cell HXN.out
          go_wp2_with fail
          clear f0_ f1_ f2_ f3_ f4_ f5_
          refine hK _ _ trivial ?_
          clear hK K
          apply wpT_get rfl
          · go_simp
          · intro wS hS
            go_simp
            try rfl
          intro K hK
          go_simp
          refine hK _ ?_
          clear hK K
          refine wpT_one rfl (fun K hK => ?_)
          obtain ⟨⟨f0_, f1_, f2_, f3_, f4_, f5_⟩, fz_⟩ := HS3.out.cell HXN.out
          have z0_ := fz_ (jj * 6); have z1_ := fz_ (jj * 6 + 1); have z2_ := fz_ (jj * 6 + 2); have z3_ := fz_ (jj * 6 + 3); have z4_ := fz_ (jj * 6 + 4); have z5_ := fz_ (jj * 6 + 5)
          have lt_ := HS3.out.lt
          go_wp2_with fail
          clear f0_ f1_ f2_ f3_ f4_ f5_ fz_ z0_ z1_ z2_ z3_ z4_ z5_ lt_
          refine hK _ _ trivial ?_
          clear hK K
          have hs1 := SortR.store (w := wr) HS3.out HXN.out ((r) k)
          obtain ⟨w1, hw1⟩ : ∃ z, z = ((((((wr.setCell ⟨g, jj * 6, none⟩ (.string (V.key ((r) k)))).setCell ⟨g, jj * 6 + 1, none⟩ (.int .i64 (V.kind ((r) k)))).setCell ⟨g, jj * 6 + 2, none⟩ (.string (V.pkg ((r) k)))).setCell ⟨g, jj * 6 + 3, none⟩ (.string (V.name ((r) k)))).setCell ⟨g, jj * 6 + 4, none⟩ (.slice (V.a4 ((r) k)) (V.n4 ((r) k)) (V.d4 ((r) k)))).setCell ⟨g, jj * 6 + 5, none⟩ (.slice (V.a5 ((r) k)) (V.n5 ((r) k)) (V.d5 ((r) k)))).drew := ⟨_, rfl⟩
          have hs1 : SortR w1 g N n V (fun z => if z = jj then (r) k else (r) z) := by rw [hw1]; exact hs1.drew
          have hc1 : Chg (fun j => j = g) wr w1 := by rw [hw1]; exact (set6_chg wr g (jj * 6) (.string (V.key ((r) k))) (.int .i64 (V.kind ((r) k))) (.string (V.pkg ((r) k))) (.string (V.name ((r) k))) (.slice (V.a4 ((r) k)) (V.n4 ((r) k)) (V.d4 ((r) k))) (.slice (V.a5 ((r) k)) (V.n5 ((r) k)) (V.d5 ((r) k)))).drew
          rw [← hw1]
          have HS1 := Lib.hid hs1; have HC1 := Lib.hid hc1
          clear hs1 hc1 hw1
          apply wpT_get rfl
          · go_simp
          · intro wS hS
            go_simp
            try rfl
          intro K hK
          go_simp
          refine hK _ ?_
          clear hK K
          refine wpT_one rfl (fun K hK => ?_)
          obtain ⟨⟨f0_, f1_, f2_, f3_, f4_, f5_⟩, fz_⟩ := HS1.out.cell HYN.out
          have z0_ := fz_ (k * 6); have z1_ := fz_ (k * 6 + 1); have z2_ := fz_ (k * 6 + 2); have z3_ := fz_ (k * 6 + 3); have z4_ := fz_ (k * 6 + 4); have z5_ := fz_ (k * 6 + 5)
          have lt_ := HS1.out.lt
          go_wp2_with fail
          clear f0_ f1_ f2_ f3_ f4_ f5_ fz_ z0_ z1_ z2_ z3_ z4_ z5_ lt_
          refine hK _ _ trivial ?_
          clear hK K
          have hs2 := HS1.out.store HYN.out ((r) jj)
          obtain ⟨w2, hw2⟩ : ∃ z, z = ((((((w1.setCell ⟨g, k * 6, none⟩ (.string (V.key ((r) jj)))).setCell ⟨g, k * 6 + 1, none⟩ (.int .i64 (V.kind ((r) jj)))).setCell ⟨g, k * 6 + 2, none⟩ (.string (V.pkg ((r) jj)))).setCell ⟨g, k * 6 + 3, none⟩ (.string (V.name ((r) jj)))).setCell ⟨g, k * 6 + 4, none⟩ (.slice (V.a4 ((r) jj)) (V.n4 ((r) jj)) (V.d4 ((r) jj)))).setCell ⟨g, k * 6 + 5, none⟩ (.slice (V.a5 ((r) jj)) (V.n5 ((r) jj)) (V.d5 ((r) jj)))) := ⟨_, rfl⟩
          have hs2 : SortR w2 g N n V (swp (r) jj k) := by rw [hw2]; exact hs2.swapped
          have hc2 : Chg (fun j => j = g) wr w2 := by rw [hw2]; exact HC1.out.trans (set6_chg w1 g (k * 6) (.string (V.key ((r) jj))) (.int .i64 (V.kind ((r) jj))) (.string (V.pkg ((r) jj))) (.string (V.name ((r) jj))) (.slice (V.a4 ((r) jj)) (V.n4 ((r) jj)) (V.d4 ((r) jj))) (.slice (V.a5 ((r) jj)) (V.n5 ((r) jj)) (V.d5 ((r) jj)))) (fun _ _ e => e)
          rw [← hw2]
          have HS2 := Lib.hid hs2; have HC2 := Lib.hid hc2
          clear hs2 hc2 hw2 HS1 HC1
          refine wpT_doneN ?_
          go_wp2_with fail
          go_roundw
          case rel => exact ⟨k, swp r jj k, by omega, by omega, by go_num, HS2.out, HNT.out, HNI.out, HCW.out.trans HC2.out (fun _ _ e => e)⟩
          case measure => simp [intOf]; omega
        case refine_2 =>
          obtain ⟨⟨f0_, f1_, f2_, f3_, f4_, f5_⟩, _⟩ := HS3.out.cell HXN.out
          go_wp2_with fail
          clear f0_ f1_ f2_ f3_ f4_ f5_
          refine hK _ _ trivial ?_
          clear hK K
          refine wpT_one rfl (fun K hK => ?_)
          obtain ⟨⟨f0_, f1_, f2_, f3_, f4_, f5_⟩, _⟩ := HS3.out.cell HYN.out
          go_wp2_with fail
          clear f0_ f1_ f2_ f3_ f4_ f5_
          refine hK _ _ trivial ?_
          clear hK K
          apply wpT_get rfl
          · go_simp
          · intro wS hS
            go_simp
            try rfl
          intro K hK
          go_simp
          refine hK _ ?_
          clear hK K
          refine wpT_one rfl (fun K hK => ?_)
          obtain ⟨⟨f0_, f1_, f2_, f3_, f4_, f5_⟩, fz_⟩ := HS3.out.cell HXN.out
          have z0_ := fz_ (jj * 6); have z1_ := fz_ (jj * 6 + 1); have z2_ := fz_ (jj * 6 + 2); have z3_ := fz_ (jj * 6 + 3); have z4_ := fz_ (jj * 6 + 4); have z5_ := fz_ (jj * 6 + 5)
          have lt_ := HS3.out.lt
          go_wp2_with fail
          clear f0_ f1_ f2_ f3_ f4_ f5_ fz_ z0_ z1_ z2_ z3_ z4_ z5_ lt_
          refine hK _ _ trivial ?_
          clear hK K
          have hs1 := SortR.store (w := wr) HS3.out HXN.out ((r) k)
          obtain ⟨w1, hw1⟩ : ∃ z, z = ((((((wr.setCell ⟨g, jj * 6, none⟩ (.string (V.key ((r) k)))).setCell ⟨g, jj * 6 + 1, none⟩ (.int .i64 (V.kind ((r) k)))).setCell ⟨g, jj * 6 + 2, none⟩ (.string (V.pkg ((r) k)))).setCell ⟨g, jj * 6 + 3, none⟩ (.string (V.name ((r) k)))).setCell ⟨g, jj * 6 + 4, none⟩ (.slice (V.a4 ((r) k)) (V.n4 ((r) k)) (V.d4 ((r) k)))).setCell ⟨g, jj * 6 + 5, none⟩ (.slice (V.a5 ((r) k)) (V.n5 ((r) k)) (V.d5 ((r) k)))).drew := ⟨_, rfl⟩
          have hs1 : SortR w1 g N n V (fun z => if z = jj then (r) k else (r) z) := by rw [hw1]; exact hs1.drew
          have hc1 : Chg (fun j => j = g) wr w1 := by rw [hw1]; exact (set6_chg wr g (jj * 6) (.string (V.key ((r) k))) (.int .i64 (V.kind ((r) k))) (.string (V.pkg ((r) k))) (.string (V.name ((r) k))) (.slice (V.a4 ((r) k)) (V.n4 ((r) k)) (V.d4 ((r) k))) (.slice (V.a5 ((r) k)) (V.n5 ((r) k)) (V.d5 ((r) k)))).drew
          rw [← hw1]
          have HS1 := Lib.hid hs1; have HC1 := Lib.hid hc1
          clear hs1 hc1 hw1
          apply wpT_get rfl
          · go_simp
          · intro wS hS
            go_simp
            try rfl
          intro K hK
          go_simp
          refine hK _ ?_
          clear hK K
          refine wpT_one rfl (fun K hK => ?_)
          obtain ⟨⟨f0_, f1_, f2_, f3_, f4_, f5_⟩, fz_⟩ := HS1.out.cell HYN.out
          have z0_ := fz_ (k * 6); have z1_ := fz_ (k * 6 + 1); have z2_ := fz_ (k * 6 + 2); have z3_ := fz_ (k * 6 + 3); have z4_ := fz_ (k * 6 + 4); have z5_ := fz_ (k * 6 + 5)
          have lt_ := HS1.out.lt
          go_wp2_with fail
          clear f0_ f1_ f2_ f3_ f4_ f5_ fz_ z0_ z1_ z2_ z3_ z4_ z5_ lt_
          refine hK _ _ trivial ?_
          clear hK K
          have hs2 := HS1.out.store HYN.out ((r) jj)
          obtain ⟨w2, hw2⟩ : ∃ z, z = ((((((w1.setCell ⟨g, k * 6, none⟩ (.string (V.key ((r) jj)))).setCell ⟨g, k * 6 + 1, none⟩ (.int .i64 (V.kind ((r) jj)))).setCell ⟨g, k * 6 + 2, none⟩ (.string (V.pkg ((r) jj)))).setCell ⟨g, k * 6 + 3, none⟩ (.string (V.name ((r) jj)))).setCell ⟨g, k * 6 + 4, none⟩ (.slice (V.a4 ((r) jj)) (V.n4 ((r) jj)) (V.d4 ((r) jj)))).setCell ⟨g, k * 6 + 5, none⟩ (.slice (V.a5 ((r) jj)) (V.n5 ((r) jj)) (V.d5 ((r) jj)))) := ⟨_, rfl⟩
          have hs2 : SortR w2 g N n V (swp (r) jj k) := by rw [hw2]; exact hs2.swapped
          have hc2 : Chg (fun j => j = g) wr w2 := by rw [hw2]; exact HC1.out.trans (set6_chg w1 g (k * 6) (.string (V.key ((r) jj))) (.int .i64 (V.kind ((r) jj))) (.string (V.pkg ((r) jj))) (.string (V.name ((r) jj))) (.slice (V.a4 ((r) jj)) (V.n4 ((r) jj)) (V.d4 ((r) jj))) (.slice (V.a5 ((r) jj)) (V.n5 ((r) jj)) (V.d5 ((r) jj)))) (fun _ _ e => e)
          rw [← hw2]
          have HS2 := Lib.hid hs2; have HC2 := Lib.hid hc2
          clear hs2 hc2 hw2 HS1 HC1
          refine wpT_doneN ?_
          go_wp2_with fail
          go_roundw
          case rel => exact ⟨k, swp r jj k, by omega, by omega, by go_num, HS2.out, HNT.out, HNI.out, HCW.out.trans HC2.out (fun _ _ e => e)⟩
          case measure => simp [intOf]; omega
      | false =>
        have HZ := Lib.hid z
        have hv0 : ¬ v < 0 := by have := HV.out; rw [z] at this; simpa using this
        clear z
        apply wpT_get rfl
        · go_simp
        · intro wS hS
          go_simp
          try rfl
        intro K hK
        go_simp
        refine hK _ ?_
        clear hK K
        apply wpT_get rfl
        · go_simp
        · intro wS hS
          go_simp
          try rfl
        intro K hK
        go_simp
        refine hK _ ?_
        clear hK K
        have HD := Lib.hid (HI.out.done (.inr ⟨k, rfl, by omega, by have := HZ.out; rw [HJ.out] at this; exact this⟩))
        have HTB := Lib.hid (HU.out.trans (HT2.out.wide (Nat.le_refl _) (by omega : i + 1 ≤ b)))
        have HTI := Lib.hid ((HT.out.wide (Nat.le_refl _) (by omega : i ≤ i + 1)).trans HT2.out)
        have HCA := Lib.hid ((HC.out.trans HC2.out (fun _ _ e => e)).trans HC3.out (fun _ _ e => e.elim))
        refine wpT_doneN ?_
        go_wp2_with fail
        go_roundw
        case rel => exact ⟨i + 1, r, by omega, by omega, by have := HI1.out; go_num, HS3.out, HTI.out, HTB.out, HD.out, HCA.out⟩
        case measure => simp [intOf]; omega
end Go.Proofs.Ytiecbgclkdlpkaa
