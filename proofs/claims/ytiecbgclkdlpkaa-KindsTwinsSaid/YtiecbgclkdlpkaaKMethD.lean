/-
  The walk of mortiseref7.put: a field into a list in order. The conditions: the row is the call's own; it is not too long.
-/
import Derived.Test.YtiecbgclkdlpkaaKMethC
namespace Go.Proofs.Ytiecbgclkdlpkaa
open Go.RowKit
set_option linter.unusedVariables false
set_option linter.unusedSimpArgs false
attribute [local irreducible] wpStill wpOrd wpT

/-- An own row of n elements in order. -/
structure Row (w : World) (base : Nat) (u : Value) (n : Nat) (V : Cel) (q : Nat → Nat) : Prop where
  o : OwnS w base u n V q
  t : Turn 0 n id q
  s : Sorted V.key q 0 n
theorem Row.nil (w : World) (base : Nat) (V : Cel) : Row w base (.slice none 0 0) 0 V id := ⟨OwnS.nil _ _ _ _, Turn.refl _ _ _, Sorted.short (by omega)⟩
theorem key_of {V U : Cel} {i : Nat} (h : U.cells i = V.cells i) : U.key i = V.key i := by
  unfold Cel.cells at h
  injection h with h _
  injection h

set_option maxRecDepth 100000 in
set_option maxHeartbeats 6400000 in
theorem rput1_any (w : World) (base : Nat) (u : Value) (n : Nat) (V U : Cel) (q : Nat → Nat) (hn : n + 1 ≤ 1000000) (hR : Row w base u n V q) (hbs : base ≤ w.heap.size) (hold : ∀ i, i < n → U.cells i = V.cells i) :
    Calls Try.prog 64 #[u, .agg #[.string (U.key (n)), .int .i64 (U.kind (n)), .string (U.pkg (n)), .string (U.name (n)), .slice (U.a4 (n)) (U.n4 (n)) (U.d4 (n)), .slice (U.a5 (n)) (U.n5 (n)) (U.d5 (n))]] w (fun e w' => ∃ u' r, e = .returned u' ∧ Row w' base u' (n + 1) U r ∧ Below base w w') := by
  obtain ⟨xs, hox, hxx⟩ := hR.o
  have hqn : q n = n := hR.t.out (.inr (Nat.le_refl _))
  have HQL := Lib.hid (fun i (h : i < n) => hR.t.lt h)
  have HSO := Lib.hid (show Sorted U.key q 0 n from fun x y h1 h2 h3 => by
    have := hR.s x y h1 h2 h3
    unfold Ahead at this ⊢
    rw [key_of (hold _ (hR.t.lt (show x < n by omega))), key_of (hold _ (hR.t.lt h3))]; exact this)
  have HT := Lib.hid (hR.t.wide (Nat.le_refl 0) (Nat.le_succ n))
  have HQN := Lib.hid hqn; have HXX := Lib.hid hxx; have HXL := Lib.hid hox.1
  have HGR := Lib.hid (fun y (hy : u.ownBlock = some y) => hR.o.grown hy)
  have HOLD := Lib.hid hold; have HBS := Lib.hid hbs
  have hcw : Chg (fun _ => False) w ((w.alloc (.cells #[.string (U.key (n)), .int .i64 (U.kind (n)), .string (U.pkg (n)), .string (U.name (n)), .slice (U.a4 (n)) (U.n4 (n)) (U.d4 (n)), .slice (U.a5 (n)) (U.n5 (n)) (U.d5 (n))] 56)).alloc (.cells #[.string (U.key (n)), .int .i64 (U.kind (n)), .string (U.pkg (n)), .string (U.name (n)), .slice (U.a4 (n)) (U.n4 (n)) (U.d4 (n)), .slice (U.a5 (n)) (U.n5 (n)) (U.d5 (n))] 56)) := ((Chg.refl _ w).alloc _).alloc _
  have HCW := Lib.hid hcw
  have HOX := Lib.hid (show (((w.alloc (.cells #[.string (U.key (n)), .int .i64 (U.kind (n)), .string (U.pkg (n)), .string (U.name (n)), .slice (U.a4 (n)) (U.n4 (n)) (U.d4 (n)), .slice (U.a5 (n)) (U.n5 (n)) (U.d5 (n))] 56)).alloc (.cells #[.string (U.key (n)), .int .i64 (U.kind (n)), .string (U.pkg (n)), .string (U.name (n)), .slice (U.a4 (n)) (U.n4 (n)) (U.d4 (n)), .slice (U.a5 (n)) (U.n5 (n)) (U.d5 (n))] 56))).ownsRow base 56 6 u n xs from own_grows hcw hox)
  have HNA := Lib.hid (show ∀ (j : Nat) (y : Value), ([.string (U.key (n)), .int .i64 (U.kind (n)), .string (U.pkg (n)), .string (U.name (n)), .slice (U.a4 (n)) (U.n4 (n)) (U.d4 (n)), .slice (U.a5 (n)) (U.n5 (n)) (U.d5 (n))] : List Value)[j]? = some y → (((w.alloc (.cells #[.string (U.key (n)), .int .i64 (U.kind (n)), .string (U.pkg (n)), .string (U.name (n)), .slice (U.a4 (n)) (U.n4 (n)) (U.d4 (n)), .slice (U.a5 (n)) (U.n5 (n)) (U.d5 (n))] 56)).alloc (.cells #[.string (U.key (n)), .int .i64 (U.kind (n)), .string (U.pkg (n)), .string (U.name (n)), .slice (U.a4 (n)) (U.n4 (n)) (U.d4 (n)), .slice (U.a5 (n)) (U.n5 (n)) (U.d5 (n))] 56))).cell? ⟨w.heap.size + 1, j, none⟩ = some y from fun j y q => by
    have h := alloc_at (w.alloc (.cells #[.string (U.key (n)), .int .i64 (U.kind (n)), .string (U.pkg (n)), .string (U.name (n)), .slice (U.a4 (n)) (U.n4 (n)) (U.d4 (n)), .slice (U.a5 (n)) (U.n5 (n)) (U.d5 (n))] 56)) (.cells #[.string (U.key (n)), .int .i64 (U.kind (n)), .string (U.pkg (n)), .string (U.name (n)), .slice (U.a4 (n)) (U.n4 (n)) (U.d4 (n)), .slice (U.a5 (n)) (U.n5 (n)) (U.d5 (n))] 56)
    rw [World.size_alloc] at h
    rw [cell_at h]; simpa using q)
  have HON := Lib.hid (show ∀ y ∈ ([.string (U.key (n)), .int .i64 (U.kind (n)), .string (U.pkg (n)), .string (U.name (n)), .slice (U.a4 (n)) (U.n4 (n)) (U.d4 (n)), .slice (U.a5 (n)) (U.n5 (n)) (U.d5 (n))] : List Value), y.oneCell' = true from fun y q => by simp at q; rcases q with rfl | rfl | rfl | rfl | rfl | rfl <;> rfl)
  have HLN := Lib.hid (show (n + 1) * 104 ≤ 140737488355328 by omega)
  have HLM := Lib.hid (show n + 1 ≤ maxLen by unfold maxLen; omega)
  clear hox hxx hqn hcw hold hR
  go_enter Try.func64, Try.ntmps64
  go_wp2_with (at_builtin; go_loud (refine wpList_append_rec _ rfl _ _ 23 rfl base 56 (.agg #[.string ⟨#[]⟩, .int .i64 0, .string ⟨#[]⟩, .string ⟨#[]⟩, .slice none 0 0, .slice none 0 0]) 6 104 Try.infnFld Try.underlying23 rfl (by omega) u n xs rfl HOX.out (w.heap.size + 1) 1 ([.string (U.key (n)), .int .i64 (U.kind (n)), .string (U.pkg (n)), .string (U.name (n)), .slice (U.a4 (n)) (U.n4 (n)) (U.d4 (n)), .slice (U.a5 (n)) (U.n5 (n)) (U.d5 (n))]) rfl rfl HNA.out HON.out HLN.out HLM.out (by simp; omega) ?_; intro v1 w3 h1 g1 r1; have HOV := Lib.hid h1; have HGB := Lib.hid g1; obtain ⟨A1, c1, rfl⟩ := own_slice h1; clear h1 g1 r1))
  have HO3 := Lib.hid (show OwnS w3 base (.slice A1 (n + 1) c1) (n + 1) U q from OwnS.push HXX.out HXL.out HOV.out (fun i hi => HOLD.out _ (HQL.out i hi)) HQN.out rfl)
  have HC3 := Lib.hid (show Below base w w3 from ((HCW.out.mono (S' := fun y => u.ownBlock = some y) (fun _ _ e => e.elim)).grown HGB.out (fun y _ e => e)) |> fun h => ⟨h.os, h.tape, h.output, h.size, fun k hk => h.block k (by have := HBS.out; omega) (fun hy => by have := (HGR.out k hy).1; omega)⟩)
  obtain ⟨g, hg1, hg2, hg3, hg4⟩ : ∃ g, A1 = some ⟨g, 0, none⟩ ∧ base ≤ g ∧ (n + 1 ≤ c1 ∧ c1 ≤ maxLen) ∧ SortR w3 g (c1 * 6) (n + 1) U q := by
    rcases HO3.out.cases with ⟨_, h2⟩ | ⟨g, c, h1, h2, h3, h4, h5⟩
    · omega
    · injection h1 with e1 e2 e3
      subst e1 e3
      exact ⟨g, rfl, h2, ⟨h3, h4⟩, h5⟩
  subst hg1
  have HGB2 := Lib.hid hg2; have HGC := Lib.hid hg3; have HS3 := Lib.hid hg4
  have HI3 := Lib.hid (Ins.start (key := U.key) (p := q) (a := 0) (i := n) (Nat.zero_le _) HSO.out (fun x h1 h2 => by rw [HQN.out]; exact HQL.out x h2))
  clear hg2 hg3 hg4 HOX HNA HON HLN HLM HOV HGB HO3 HCW HXX HXL
  go_loopw [5] (fun s wr => ∃ (j : Nat) (r : Nat → Nat), j ≤ n ∧ s = .int .i64 j ∧ SortR wr g (c1 * 6) (n + 1) U r ∧ Turn 0 (n + 1) id r ∧ Ins U.key r 0 n j ∧ Chg (fun k => k = g) w3 wr) (fun s _ => (intOf s).toNat)
  case atStart => exact ⟨n, q, Nat.le_refl _, rfl, HS3.out, HT.out, HI3.out, Chg.refl _ _⟩
  case round =>
    clear HS3 HI3 HT
    obtain ⟨j, r, hjn, rfl, hS, hT, hI, hC⟩ := hrel
    have HS := Lib.hid hS; have HT := Lib.hid hT; have HI := Lib.hid hI; have HC := Lib.hid hC
    clear hS hT hI hC
    have HFIN := Lib.hid (fun (hd : j = 0 ∨ ∃ k, j = k + 1 ∧ 0 ≤ k ∧ lessB (U.key (r (k + 1))) (U.key (r k)) = false) => show ∃ r', Row wr base (.slice (some ⟨g, 0, none⟩) (n + 1) c1) (n + 1) U r' ∧ Below base w wr from
      ⟨r, ⟨OwnS.back HS.out HGB2.out HGC.out.1 HGC.out.2, HT.out, HI.out.done hd⟩, Below.chg HC3.out HC.out (Nat.le_trans HBS.out HC3.out.size) (fun k e => by rw [e]; exact HGB2.out)⟩)
    by_cases hj : j = 0
    case pos =>
      have HD := Lib.hid (HFIN.out (.inl hj))
      subst hj
      clear HFIN
      go_wp2_with fail
      refine wp_region_otN (fun wS => Chg (fun _ => False) wr wS) (.get 0 (.get 1 (.get 2 (.get 3 (.get 4 (.get 5 (.get 6 (.get 7 (.get 8 (.get 9 (.get 10 (.get 11 (.get 12 (.get 13 (.get 14 (.get 15 .done)))))))))))))))) (by kernel_rfl) (by kernel_rfl) (Chg.refl _ _).drew ?_
      apply wpT_get rfl
      · go_simp
      · intro wS hS
        go_simp
        try rfl
      intro K hK
      go_simp
      refine hK _ ?_
      clear hK K
      apply wpT_get rfl
      · go_simp
      · intro wS hS
        go_simp
        try rfl
      intro K hK
      go_simp
      refine hK _ ?_
      clear hK K
      apply wpT_get rfl
      · go_simp
      · intro wS hS
        go_simp
        try rfl
      intro K hK
      go_simp
      refine hK _ ?_
      clear hK K
      apply wpT_skip rfl
      · go_simp
      intro K hK
      go_simp
      refine hK _ ?_
      clear hK K
      apply wpT_skip rfl
      · go_simp
      intro K hK
      go_simp
      refine hK _ ?_
      clear hK K
      apply wpT_skip rfl
      · go_simp
      intro K hK
      go_simp
      refine hK _ ?_
      clear hK K
      apply wpT_skip rfl
      · go_simp
      intro K hK
      go_simp
      refine hK _ ?_
      clear hK K
      apply wpT_skip rfl
      · go_simp
      intro K hK
      go_simp
      refine hK _ ?_
      clear hK K
      apply wpT_skip rfl
      · go_simp
      intro K hK
      go_simp
      refine hK _ ?_
      clear hK K
      apply wpT_skip rfl
      · go_simp
      intro K hK
      go_simp
      refine hK _ ?_
      clear hK K
      apply wpT_skip rfl
      · go_simp
      intro K hK
      go_simp
      refine hK _ ?_
      clear hK K
      apply wpT_skip rfl
      · go_simp
      intro K hK
      go_simp
      refine hK _ ?_
      clear hK K
      apply wpT_skip rfl
      · go_simp
      intro K hK
      go_simp
      refine hK _ ?_
      clear hK K
      apply wpT_skip rfl
      · go_simp
      intro K hK
      go_simp
      refine hK _ ?_
      clear hK K
      apply wpT_skip rfl
      · go_simp
      intro K hK
      go_simp
      refine hK _ ?_
      clear hK K
      apply wpT_get rfl
      · go_simp
      · intro wS hS
        go_simp
        try rfl
      intro K hK
      go_simp
      refine hK _ ?_
      clear hK K
      refine wpT_doneN ?_
      go_wp2_with fail
      obtain ⟨r', hR', hb'⟩ := HD.out
      refine bodyPost_ret (results_tmp rfl _ _ _) rfl ?_
      exact ⟨.slice (some ⟨g, 0, none⟩) (n + 1) c1, r', rfl, ⟨hR'.o.chg (Chg.refl _ _).drew, hR'.t, hR'.s⟩, hb'.drew⟩
    obtain ⟨k, rfl⟩ : ∃ k, j = k + 1 := ⟨j - 1, by omega⟩
    obtain ⟨jj, hjj⟩ : ∃ x, x = k + 1 := ⟨_, rfl⟩
    have ej : ((k + 1 : Nat) : Int) = (jj : Int) := by omega
    have ek : (jj : Int) - 1 = (k : Int) := by omega
    have wk_ : IntKind.i64.wrap (k : Int) = (k : Int) := by rw [IntKind.wrap_i64]; omega
    have wj_ : IntKind.i64.wrap (jj : Int) = (jj : Int) := by rw [IntKind.wrap_i64]; omega
    have hgt : (0 : Int) < (jj : Int) := by omega
    have hgt0 : 0 < jj := by omega
    have hkn : (k : Int) < (n : Int) + 1 := by omega
    have hjnn : (jj : Int) < (n : Int) + 1 := by omega
    have HK0 := Lib.hid (show k < n + 1 by omega)
    have HJ0 := Lib.hid (show jj < n + 1 by omega)
    have HJ := Lib.hid hjj
    rw [ej]
    clear hjj ej hj
    obtain ⟨⟨f0, f1, f2, f3, f4, f5⟩, _⟩ := HS.out.cell HJ0.out
    obtain ⟨⟨g0, g1, g2, g3, g4, g5⟩, _⟩ := HS.out.cell HK0.out
    cases z : lessB (U.key (r jj)) (U.key (r k)) with
    | true =>
      have HZ := Lib.hid z
      have zz : Op.bytesLess (U.key (r jj)).toList (U.key (r k)).toList = true := z
      clear z
      clear HFIN
      go_wp2_with fail
      refine wp_region_otN (fun wS => Chg (fun _ => False) wr wS) (.get 0 (.get 1 (.get 2 (.get 3 (.get 4 (.get 5 (.get 6 (.get 7 (.get 8 (.get 9 (.get 10 (.get 11 (.get 12 (.get 13 (.get 14 (.get 15 .done)))))))))))))))) (by kernel_rfl) (by kernel_rfl) (Chg.refl _ _).drew ?_
      apply wpT_get rfl
      · go_simp
      · intro wS hS
        go_simp
        try rfl
      intro K hK
      go_simp
      refine hK _ ?_
      clear hK K
      apply wpT_get rfl
      · go_simp
      · intro wS hS
        go_simp
        try rfl
      intro K hK
      go_simp
      refine hK _ ?_
      clear hK K
      apply wpT_get rfl
      · go_simp
      · intro wS hS
        go_simp
        try rfl
      intro K hK
      go_simp
      refine hK _ ?_
      clear hK K
      apply wpT_get rfl
      · go_simp
      · intro wS hS
        go_simp
        try rfl
      intro K hK
      go_simp
      refine hK _ ?_
      clear hK K
      apply wpT_get rfl
      · go_simp
      · intro wS hS
        go_simp
        try rfl
      intro K hK
      go_simp
      refine hK _ ?_
      clear hK K
      apply wpT_get rfl
      · go_simp
      · intro wS hS
        go_simp
        try rfl
      intro K hK
      go_simp
      refine hK _ ?_
      clear hK K
      apply wpT_get rfl
      · go_simp
      · intro wS hS
        go_simp
        try rfl
      intro K hK
      go_simp
      refine hK _ ?_
      clear hK K
      apply wpT_get rfl
      · go_simp
      · intro wS hS
        have x0 := hS.cell f0 id
        go_simp
        try rfl
      intro K hK
      go_simp
      refine hK _ ?_
      clear hK K
      apply wpT_get rfl
      · go_simp
      · intro wS hS
        go_simp
        try rfl
      intro K hK
      go_simp
      refine hK _ ?_
      clear hK K
      apply wpT_get rfl
      · go_simp
      · intro wS hS
        go_simp
        try rfl
      intro K hK
      go_simp
      refine hK _ ?_
      clear hK K
      apply wpT_get rfl
      · go_simp
      · intro wS hS
        go_simp
        try rfl
      intro K hK
      go_simp
      refine hK _ ?_
      clear hK K
      apply wpT_get rfl
      · go_simp
      · intro wS hS
        go_simp
        try rfl
      intro K hK
      go_simp
      refine hK _ ?_
      clear hK K
      apply wpT_get rfl
      · go_simp
      · intro wS hS
        go_simp
        try rfl
      intro K hK
      go_simp
      refine hK _ ?_
      clear hK K
      apply wpT_get rfl
      · go_simp
      · intro wS hS
        have x0 := hS.cell g0 id
        go_simp
        try rfl
      intro K hK
      go_simp
      refine hK _ ?_
      clear hK K
      apply wpT_get rfl
      · go_simp
      · intro wS hS
        go_simp
        try rfl
      intro K hK
      go_simp
      refine hK _ ?_
      clear hK K
      apply wpT_get rfl
      · go_simp
      · intro wS hS
        go_simp
        try rfl
      intro K hK
      go_simp
      refine hK _ ?_
      clear hK K
      refine wpT_doneN ?_
      obtain ⟨_, fz⟩ := HS.out.cell HJ0.out
      have z0 := fz (jj * 6); have z1 := fz (jj * 6 + 1); have z2 := fz (jj * 6 + 2); have z3 := fz (jj * 6 + 3); have z4 := fz (jj * 6 + 4); have z5 := fz (jj * 6 + 5)
      have hgl := HS.out.lt
      go_upto_region 7 with (fail)
      have hs1 := SortR.store (w := wr) HS.out HJ0.out (r k)
      have hsz : (((((((wr.setCell ⟨g, jj * 6, none⟩ (.string (U.key (r k)))).setCell ⟨g, jj * 6 + 1, none⟩ (.int .i64 (U.kind (r k)))).setCell ⟨g, jj * 6 + 2, none⟩ (.string (U.pkg (r k)))).setCell ⟨g, jj * 6 + 3, none⟩ (.string (U.name (r k)))).setCell ⟨g, jj * 6 + 4, none⟩ (.slice (U.a4 (r k)) (U.n4 (r k)) (U.d4 (r k)))).setCell ⟨g, jj * 6 + 5, none⟩ (.slice (U.a5 (r k)) (U.n5 (r k)) (U.d5 (r k))))).heap.size = wr.heap.size := by simp
      have he := alloc_at ((((((wr.setCell ⟨g, jj * 6, none⟩ (.string (U.key (r k)))).setCell ⟨g, jj * 6 + 1, none⟩ (.int .i64 (U.kind (r k)))).setCell ⟨g, jj * 6 + 2, none⟩ (.string (U.pkg (r k)))).setCell ⟨g, jj * 6 + 3, none⟩ (.string (U.name (r k)))).setCell ⟨g, jj * 6 + 4, none⟩ (.slice (U.a4 (r k)) (U.n4 (r k)) (U.d4 (r k)))).setCell ⟨g, jj * 6 + 5, none⟩ (.slice (U.a5 (r k)) (U.n5 (r k)) (U.d5 (r k)))) (.cells #[.string (U.key (r jj)), .int .i64 (U.kind (r jj)), .string (U.pkg (r jj)), .string (U.name (r jj)), .slice (U.a4 (r jj)) (U.n4 (r jj)) (U.d4 (r jj)), .slice (U.a5 (r jj)) (U.n5 (r jj)) (U.d5 (r jj))] 56)
      rw [hsz] at he
      obtain ⟨w1, hw1⟩ : ∃ z, z = ((((((((wr.setCell ⟨g, jj * 6, none⟩ (.string (U.key (r k)))).setCell ⟨g, jj * 6 + 1, none⟩ (.int .i64 (U.kind (r k)))).setCell ⟨g, jj * 6 + 2, none⟩ (.string (U.pkg (r k)))).setCell ⟨g, jj * 6 + 3, none⟩ (.string (U.name (r k)))).setCell ⟨g, jj * 6 + 4, none⟩ (.slice (U.a4 (r k)) (U.n4 (r k)) (U.d4 (r k)))).setCell ⟨g, jj * 6 + 5, none⟩ (.slice (U.a5 (r k)) (U.n5 (r k)) (U.d5 (r k))))).alloc (.cells #[.string (U.key (r jj)), .int .i64 (U.kind (r jj)), .string (U.pkg (r jj)), .string (U.name (r jj)), .slice (U.a4 (r jj)) (U.n4 (r jj)) (U.d4 (r jj)), .slice (U.a5 (r jj)) (U.n5 (r jj)) (U.d5 (r jj))] 56)).drew := ⟨_, rfl⟩
      have hs1 : SortR w1 g (c1 * 6) (n + 1) U (fun z => if z = jj then r k else r z) := by rw [hw1]; exact (hs1.keepC ((Chg.refl _ _).alloc _)).drew
      have hc1 : Chg (fun k => k = g) wr w1 := by rw [hw1]; exact ((set6_chg wr g (jj * 6) (.string (U.key (r k))) (.int .i64 (U.kind (r k))) (.string (U.pkg (r k))) (.string (U.name (r k))) (.slice (U.a4 (r k)) (U.n4 (r k)) (U.d4 (r k))) (.slice (U.a5 (r k)) (U.n5 (r k)) (U.d5 (r k)))).alloc _).drew
      have he : w1.heap[wr.heap.size]? = some (.cells #[.string (U.key (r jj)), .int .i64 (U.kind (r jj)), .string (U.pkg (r jj)), .string (U.name (r jj)), .slice (U.a4 (r jj)) (U.n4 (r jj)) (U.d4 (r jj)), .slice (U.a5 (r jj)) (U.n5 (r jj)) (U.d5 (r jj))] 56 (0, 0)) := by rw [hw1]; exact drew_at he
      rw [← hw1]
      have HS1 := Lib.hid hs1; have HC1 := Lib.hid hc1; have HE := Lib.hid he
      clear hs1 hc1 hw1 he hsz z0 z1 z2 z3 z4 z5 fz f0 f1 f2 f3 f4 f5 g0 g1 g2 g3 g4 g5 hgl
      obtain ⟨⟨f0, f1, f2, f3, f4, f5⟩, fz⟩ := HS1.out.cell HK0.out
      have z0 := fz (k * 6); have z1 := fz (k * 6 + 1); have z2 := fz (k * 6 + 2); have z3 := fz (k * 6 + 3); have z4 := fz (k * 6 + 4); have z5 := fz (k * 6 + 5)
      have hgl := HS1.out.lt
      have e0_ : w1.cell? ⟨wr.heap.size, 0, none⟩ = some (.string (U.key (r jj))) := (cell_at HE.out 0).trans rfl
      have e1_ : w1.cell? ⟨wr.heap.size, 1, none⟩ = some (.int .i64 (U.kind (r jj))) := (cell_at HE.out 1).trans rfl
      have e2_ : w1.cell? ⟨wr.heap.size, 2, none⟩ = some (.string (U.pkg (r jj))) := (cell_at HE.out 2).trans rfl
      have e3_ : w1.cell? ⟨wr.heap.size, 3, none⟩ = some (.string (U.name (r jj))) := (cell_at HE.out 3).trans rfl
      have e4_ : w1.cell? ⟨wr.heap.size, 4, none⟩ = some (.slice (U.a4 (r jj)) (U.n4 (r jj)) (U.d4 (r jj))) := (cell_at HE.out 4).trans rfl
      have e5_ : w1.cell? ⟨wr.heap.size, 5, none⟩ = some (.slice (U.a5 (r jj)) (U.n5 (r jj)) (U.d5 (r jj))) := (cell_at HE.out 5).trans rfl
      go_wp2_with fail
      clear f0 f1 f2 f3 f4 f5 z0 z1 z2 z3 z4 z5 fz hgl e0_ e1_ e2_ e3_ e4_ e5_
      have hs2 := HS1.out.store HK0.out (r jj)
      obtain ⟨w2, hw2⟩ : ∃ z, z = ((((((w1.setCell ⟨g, k * 6, none⟩ (.string (U.key (r jj)))).setCell ⟨g, k * 6 + 1, none⟩ (.int .i64 (U.kind (r jj)))).setCell ⟨g, k * 6 + 2, none⟩ (.string (U.pkg (r jj)))).setCell ⟨g, k * 6 + 3, none⟩ (.string (U.name (r jj)))).setCell ⟨g, k * 6 + 4, none⟩ (.slice (U.a4 (r jj)) (U.n4 (r jj)) (U.d4 (r jj)))).setCell ⟨g, k * 6 + 5, none⟩ (.slice (U.a5 (r jj)) (U.n5 (r jj)) (U.d5 (r jj)))) := ⟨_, rfl⟩
      have hs2 : SortR w2 g (c1 * 6) (n + 1) U (swp r jj k) := by rw [hw2]; exact hs2.swapped
      have hc2 : Chg (fun k => k = g) wr w2 := by rw [hw2]; exact HC1.out.trans (set6_chg w1 g (k * 6) (.string (U.key (r jj))) (.int .i64 (U.kind (r jj))) (.string (U.pkg (r jj))) (.string (U.name (r jj))) (.slice (U.a4 (r jj)) (U.n4 (r jj)) (U.d4 (r jj))) (.slice (U.a5 (r jj)) (U.n5 (r jj)) (U.d5 (r jj)))) (fun _ _ e => e)
      rw [← hw2]
      have HS2 := Lib.hid hs2; have HC2 := Lib.hid hc2
      have HNI := Lib.hid (show Ins U.key (swp r jj k) 0 n k from (show Ins U.key r 0 n (k + 1) from HI.out).next (Nat.zero_le _) (by have := HZ.out; rw [HJ.out] at this; exact this) (fun x => by rw [HJ.out]))
      have HNT := Lib.hid (HT.out.trans (swp_turn r (Nat.zero_le _) HJ0.out (Nat.zero_le _) HK0.out))
      clear hs2 hc2 hw2
      go_roundw
      case rel => exact ⟨k, swp r jj k, by omega, by go_num, HS2.out, HNT.out, HNI.out, HC.out.trans HC2.out (fun _ _ e => e)⟩
      case measure => simp [intOf]; have := HJ.out; omega
    | false =>
      have HZ := Lib.hid z
      have zz : Op.bytesLess (U.key (r jj)).toList (U.key (r k)).toList = false := z
      clear z
      have HD := Lib.hid (HFIN.out (.inr ⟨k, rfl, Nat.zero_le _, by have := HZ.out; rw [HJ.out] at this; exact this⟩))
      clear HFIN
      go_wp2_with fail
      refine wp_region_otN (fun wS => Chg (fun _ => False) wr wS) (.get 0 (.get 1 (.get 2 (.get 3 (.get 4 (.get 5 (.get 6 (.get 7 (.get 8 (.get 9 (.get 10 (.get 11 (.get 12 (.get 13 (.get 14 (.get 15 .done)))))))))))))))) (by kernel_rfl) (by kernel_rfl) (Chg.refl _ _).drew ?_
      apply wpT_get rfl
      · go_simp
      · intro wS hS
        go_simp
        try rfl
      intro K hK
      go_simp
      refine hK _ ?_
      clear hK K
      apply wpT_get rfl
      · go_simp
      · intro wS hS
        go_simp
        try rfl
      intro K hK
      go_simp
      refine hK _ ?_
      clear hK K
      apply wpT_get rfl
      · go_simp
      · intro wS hS
        go_simp
        try rfl
      intro K hK
      go_simp
      refine hK _ ?_
      clear hK K
      apply wpT_get rfl
      · go_simp
      · intro wS hS
        go_simp
        try rfl
      intro K hK
      go_simp
      refine hK _ ?_
      clear hK K
      apply wpT_get rfl
      · go_simp
      · intro wS hS
        go_simp
        try rfl
      intro K hK
      go_simp
      refine hK _ ?_
      clear hK K
      apply wpT_get rfl
      · go_simp
      · intro wS hS
        go_simp
        try rfl
      intro K hK
      go_simp
      refine hK _ ?_
      clear hK K
      apply wpT_get rfl
      · go_simp
      · intro wS hS
        go_simp
        try rfl
      intro K hK
      go_simp
      refine hK _ ?_
      clear hK K
      apply wpT_get rfl
      · go_simp
      · intro wS hS
        have x0 := hS.cell f0 id
        go_simp
        try rfl
      intro K hK
      go_simp
      refine hK _ ?_
      clear hK K
      apply wpT_get rfl
      · go_simp
      · intro wS hS
        go_simp
        try rfl
      intro K hK
      go_simp
      refine hK _ ?_
      clear hK K
      apply wpT_get rfl
      · go_simp
      · intro wS hS
        go_simp
        try rfl
      intro K hK
      go_simp
      refine hK _ ?_
      clear hK K
      apply wpT_get rfl
      · go_simp
      · intro wS hS
        go_simp
        try rfl
      intro K hK
      go_simp
      refine hK _ ?_
      clear hK K
      apply wpT_get rfl
      · go_simp
      · intro wS hS
        go_simp
        try rfl
      intro K hK
      go_simp
      refine hK _ ?_
      clear hK K
      apply wpT_get rfl
      · go_simp
      · intro wS hS
        go_simp
        try rfl
      intro K hK
      go_simp
      refine hK _ ?_
      clear hK K
      apply wpT_get rfl
      · go_simp
      · intro wS hS
        have x0 := hS.cell g0 id
        go_simp
        try rfl
      intro K hK
      go_simp
      refine hK _ ?_
      clear hK K
      apply wpT_get rfl
      · go_simp
      · intro wS hS
        go_simp
        try rfl
      intro K hK
      go_simp
      refine hK _ ?_
      clear hK K
      apply wpT_get rfl
      · go_simp
      · intro wS hS
        go_simp
        try rfl
      intro K hK
      go_simp
      refine hK _ ?_
      clear hK K
      clear f0 f1 f2 f3 f4 f5 g0 g1 g2 g3 g4 g5
      refine wpT_doneN ?_
      go_wp2_with fail
      obtain ⟨r', hR', hb'⟩ := HD.out
      refine bodyPost_ret (results_tmp rfl _ _ _) rfl ?_
      exact ⟨.slice (some ⟨g, 0, none⟩) (n + 1) c1, r', rfl, ⟨hR'.o.chg (Chg.refl _ _).drew, hR'.t, hR'.s⟩, hb'.drew⟩
      theorem rput_any (w : World) (base : Nat) (u : Value) (l : List Fld) (v : World) (V : Cel) (q : Nat → Nat) (hn : l.length + 1 ≤ 1000000) (hR : Row w base u l.length V q) (hbs : base ≤ w.heap.size) (hrv : ReadV v l V) (f : Fld) (A4 : Option Addr) (c4 : Nat) (A5 : Option Addr) (c5 : Nat)
          (hv : Vals v f.d [.string f.name, .int .i64 f.type.kind, .string f.type.pkg, .string f.type.name, .slice A4 f.type.args.length c4, .slice A5 f.type.res.length c5]) :
          Calls Try.prog 64 #[u, .agg #[.string f.name, .int .i64 f.type.kind, .string f.type.pkg, .string f.type.name, .slice A4 f.type.args.length c4, .slice A5 f.type.res.length c5]] w (fun e w' => ∃ u' U r, e = .returned u' ∧ Row w' base u' (l ++ [f]).length U r ∧ ReadV v (l ++ [f]) U ∧ Below base w w') := by
        have h := rput1_any w base u l.length V (V.put l.length f A4 c4 A5 c5) q hn hR hbs (fun i hi => V.put_old _ _ _ _ _ (by omega))
        have e := V.put_new l.length f A4 c4 A5 c5
        unfold Cel.cells at e
        simp only [List.cons.injEq, Value.string.injEq, Value.int.injEq, Value.slice.injEq, and_true, true_and] at e
        obtain ⟨e1, e2, e3, e4, ⟨e5, e6, e7⟩, e8, e9, e10⟩ := e
        rw [e1, e2, e3, e4, e5, e6, e7, e8, e9, e10] at h
        refine h.mono ?_
        rintro e w' ⟨u', r, rfl, hr, hb⟩
        exact ⟨u', _, r, rfl, by rw [List.length_append]; exact hr, hrv.push hv, hb⟩
end Go.Proofs.Ytiecbgclkdlpkaa
