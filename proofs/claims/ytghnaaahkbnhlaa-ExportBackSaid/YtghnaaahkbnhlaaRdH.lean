/-
  The walk of the closure by which export's reader reads types. The conditions: the reader stands (RdS); the closure has caught it.
-/
import Derived.Test.YtghnaaahkbnhlaaRdG
import Derived.Test.YtghnaaahkbnhlaaHeldT
namespace Go.Proofs.Ytghnaaahkbnhlaa
open Go.RowKit Go.Lib
set_option linter.unusedVariables false
set_option linter.unusedSimpArgs false

def typI (d : Nat) : Pa Ty := fun l => bindP (numP l) fun k l1 => bindP (textP l1) fun p l2 => bindP (textP l2) fun n l3 => bindP (takesP (typP d) l3) fun xs l4 => bindP (takesP (typP d) l4) fun ys l5 => some (.mk k p n xs ys, l5)

/-- While the parts ahead of the lists are read: the local struct may be there already. -/
structure T1S (W0 w wx : World) (br kc : Nat) (dp : Int) (kl : Option Nat) (cs : List Value) (l : List UInt8) : Prop where
  rd : RdS W0 wx br l dp
  chg : Chg (fun k => k = br) w wx
  res : wx.heap[w.heap.size]? = some (.cells #[.int .i64 0, .string ⟨#[]⟩, .string ⟨#[]⟩, .slice none 0 0, .slice none 0 0] 44 (0, 0))
  kcl : wx.heap[kc]? = some (.cells #[.pointer (some ⟨br, 0, none⟩)] 77 (0, 0))
  loc : ∀ k, kl = some k → w.heap.size < k ∧ k < wx.heap.size ∧ wx.heap[k]? = some (.cells cs.toArray 44 (0, 0))
theorem T1S.call {W0 w wx w2 : World} {br kc : Nat} {dp : Int} {kl : Option Nat} {cs : List Value} {l l' : List UInt8} (h : T1S W0 w wx br kc dp kl cs l) (hbr : br < w.heap.size) (hkb : kc ≠ br) (hs : RdS W0 w2 br l' dp) (hc : Chg (fun k => k = br) wx w2) : T1S W0 w w2 br kc dp kl cs l' :=
  ⟨hs, h.chg.trans hc (fun _ _ e => e), hc.heap h.res (by omega), hc.heap h.kcl hkb, fun k hk => by
    obtain ⟨h1, h2, h3⟩ := h.loc k hk
    exact ⟨h1, Nat.lt_of_lt_of_le h2 hc.size, hc.heap h3 (by omega)⟩⟩
theorem T1S.alloc {W0 w wx : World} {br kc : Nat} {dp : Int} {cs : List Value} {l : List UInt8} (h : T1S W0 w wx br kc dp none cs l) (n : Nat) (hn : n = wx.heap.size) : T1S W0 w (wx.alloc (.cells cs.toArray 44)) br kc dp (some n) cs l := by
  subst hn
  have hA : Chg (fun _ => False) wx (wx.alloc (.cells cs.toArray 44)) := (Chg.refl _ _).alloc _
  refine ⟨h.rd.keep hA id (fun _ q => q.elim), h.chg.trans hA (fun _ _ q => q.elim), hA.heap h.res id, hA.heap h.kcl id, fun k hk => ?_⟩
  injection hk with hk
  subst hk
  exact ⟨lt_of_block h.res, by simp, alloc_at wx _⟩
theorem T1S.none_any {W0 w wx : World} {br kc : Nat} {dp : Int} {cs cs' : List Value} {l : List UInt8} (h : T1S W0 w wx br kc dp none cs l) : T1S W0 w wx br kc dp none cs' l := ⟨h.rd, h.chg, h.res, h.kcl, fun k q => by cases q⟩
theorem T1S.drew {W0 w wx : World} {br kc : Nat} {dp : Int} {kl : Option Nat} {cs : List Value} {l : List UInt8} (h : T1S W0 w wx br kc dp kl cs l) : T1S W0 w wx.drew br kc dp kl cs l := by
  have hA : Chg (fun _ => False) wx wx.drew := (Chg.refl _ _).drew
  exact ⟨h.rd.keep hA id (fun _ q => q.elim), h.chg.drew, h.res, h.kcl, h.loc⟩
theorem T1S.cellk {W0 w wx : World} {br kc : Nat} {dp : Int} {kl : Option Nat} {cs : List Value} {l : List UInt8} (h : T1S W0 w wx br kc dp kl cs l) : wx.cell? ⟨kc, 0, none⟩ = some (.pointer (some ⟨br, 0, none⟩)) := (cell_at h.kcl 0).trans rfl

theorem T1S.put {W0 w wx : World} {br kc kl : Nat} {dp : Int} {cs : List Value} {l : List UInt8} (h : T1S W0 w wx br kc dp (some kl) cs l) (hbr : br < w.heap.size) (hkl : kc < w.heap.size) (hW : W0.heap.size ≤ w.heap.size) (i : Nat) (v : Value) :
    T1S W0 w (wx.setCell ⟨kl, i, none⟩ v) br kc dp (some kl) (cs.set i v) l := by
  obtain ⟨h1, h2, h3⟩ := h.loc kl rfl
  have hset : Chg (fun k => k = kl) wx (wx.setCell ⟨kl, i, none⟩ v) := (Chg.refl (fun k => k = kl) wx).setCell (p := ⟨kl, i, none⟩) (fun _ => rfl) _
  refine ⟨h.rd.keep hset (by omega) (fun k q => by omega), h.chg.trans hset (fun i hi q => by omega), hset.heap h.res (by omega), hset.heap h.kcl (by omega), fun k hk => ?_⟩
  injection hk with hk
  subst hk
  refine ⟨h1, Nat.lt_of_lt_of_le h2 hset.size, ?_⟩
  have e := set_at h3 i v
  rwa [List.setIfInBounds_toArray] at e

def T1Mid (W0 w : World) (br kc : Nat) (dp : Int) (d : Nat) (l0 : List UInt8) : Exit → Act → World → Prop
  | .normal, a, wx => ∃ x0 x1 x2 l3 kl, typI d l0 = (bindP (takesP (typP d) l3) fun x3 l4 => bindP (takesP (typP d) l4) fun x4 l5 => some (Ty.mk x0 x1 x2 x3 x4, l5)) ∧ In64 x0 ∧ x1.size ≤ Reach ∧ x2.size ≤ Reach ∧
      a = { tmps := #[.pointer (some ⟨kc, 0, none⟩), .pointer (some ⟨w.heap.size, 0, none⟩), .pointer (some ⟨kl, 0, none⟩), .pointer (some ⟨br, 0, none⟩), .int .i64 x0, .pointer (some ⟨br, 0, none⟩), .string x1, .pointer (some ⟨br, 0, none⟩), .string x2, .agg #[.int .i64 x0, .string x1, .string x2, .slice none 0 0, .slice none 0 0], undef, undef, undef, undef, undef, undef, undef], defers := [] } ∧ T1S W0 w wx br kc dp (some kl) [.int .i64 x0, .string x1, .string x2, .slice none 0 0, .slice none 0 0] l3
  | .panic c, a, wx => a.defers = [] ∧ ∃ u, c = [{ v := .iface 146 u, recovered := false }] ∧ typI d l0 = none ∧ Chg (fun k => k = br) w wx
  | _, _, _ => False

theorem T1S.fill {W0 w wx : World} {br kc kl : Nat} {dp : Int} {l : List UInt8} (h : T1S W0 w wx br kc dp (some kl) [.int .i64 0, .string ⟨#[]⟩, .string ⟨#[]⟩, .slice none 0 0, .slice none 0 0] l) (hbr : br < w.heap.size) (hkl : kc < w.heap.size) (hW : W0.heap.size ≤ w.heap.size) (x0 : Int) (x1 x2 : ByteArray) :
    T1S W0 w (((((wx.setCell ⟨kl, 0, none⟩ (.int .i64 x0)).setCell ⟨kl, 1, none⟩ (.string x1)).setCell ⟨kl, 2, none⟩ (.string x2)).setCell ⟨kl, 3, none⟩ (.slice none 0 0)).setCell ⟨kl, 4, none⟩ (.slice none 0 0)) br kc dp (some kl) [.int .i64 x0, .string x1, .string x2, .slice none 0 0, .slice none 0 0] l := by
  obtain ⟨h1, h2, h3⟩ := h.loc kl rfl
  have hset : Chg (fun k => k = kl) wx (((((wx.setCell ⟨kl, 0, none⟩ (.int .i64 x0)).setCell ⟨kl, 1, none⟩ (.string x1)).setCell ⟨kl, 2, none⟩ (.string x2)).setCell ⟨kl, 3, none⟩ (.slice none 0 0)).setCell ⟨kl, 4, none⟩ (.slice none 0 0)) := (((((Chg.refl (fun k => k = kl) wx).setCell (p := ⟨kl, 0, none⟩) (fun _ => rfl) _).setCell (p := ⟨kl, 1, none⟩) (fun _ => rfl) _).setCell (p := ⟨kl, 2, none⟩) (fun _ => rfl) _).setCell (p := ⟨kl, 3, none⟩) (fun _ => rfl) _).setCell (p := ⟨kl, 4, none⟩) (fun _ => rfl) _
  refine ⟨h.rd.keep hset (by omega) (fun k q => by omega), h.chg.trans hset (fun i hi q => by omega), hset.heap h.res (by omega), hset.heap h.kcl (by omega), fun k hk => ?_⟩
  injection hk with hk
  subst hk
  refine ⟨h1, Nat.lt_of_lt_of_le h2 hset.size, ?_⟩
  have e0 := set_at h3 0 (.int .i64 x0)
  have e1 := set_at e0 1 (.string x1)
  have e2 := set_at e1 2 (.string x2)
  have e3 := set_at e2 3 (.slice none 0 0)
  exact set_at e3 4 (.slice none 0 0)

set_option maxRecDepth 100000 in
set_option maxHeartbeats 6400000 in
theorem typ1_any (W0 w : World) (br kc : Nat) (dp : Int) (d : Nat) (e_l : Enters 71) (o_l : RdOne W0 br dp (typP d) Ty.d 71) (l0 : List UInt8) (h : RdS W0 w br l0 dp) (hk : w.heap[kc]? = some (.cells #[.pointer (some ⟨br, 0, none⟩)] 77 (0, 0))) (hkb : kc ≠ br) : Calls Try.prog 97 #[.pointer (some ⟨kc, 0, none⟩)] w (RdP W0 br dp w (typI d l0) (ValR w Ty.d)) := by
  have HKN := Lib.hid hkb; have HKL := Lib.hid (lt_of_block hk); have HBR := Lib.hid h.lt
  have HW0 := Lib.hid (show W0.heap.size ≤ w.heap.size from Nat.le_trans h.br_ge (Nat.le_of_lt h.lt))
  have HT : Hid (T1S W0 w (w.alloc (.cells #[.int .i64 0, .string ⟨#[]⟩, .string ⟨#[]⟩, .slice none 0 0, .slice none 0 0] 44)) br kc dp none [.int .i64 0, .string ⟨#[]⟩, .string ⟨#[]⟩, .slice none 0 0, .slice none 0 0] l0) := by
    have hA : Chg (fun _ => False) w (w.alloc (.cells #[.int .i64 0, .string ⟨#[]⟩, .string ⟨#[]⟩, .slice none 0 0, .slice none 0 0] 44)) := (Chg.refl _ _).alloc _
    exact Lib.hid ⟨h.keep hA id (fun _ q => q.elim), hA.mono (fun _ _ q => q.elim), alloc_at w _, hA.heap hk id, fun k q => by cases q⟩
  have HT := Lib.hid HT.out.drew
  have HP := Lib.hid (show typI d l0 = bindP (numP l0) fun x0 l1 => bindP (textP l1) fun x1 l2 => bindP (textP l2) fun x2 l3 => bindP (takesP (typP d) l3) fun x3 l4 => bindP (takesP (typP d) l4) fun x4 l5 => some (Ty.mk x0 x1 x2 x3 x4, l5) from rfl)
  clear h hk hkb
  go_enter Try.func97, Try.ntmps97
  go_wp2_with fail
  refine Code.wp_mono (Q := T1Mid W0 w br kc dp d l0) ?rest ?first
  case first =>

    refine wp_region_ot (fun wx => wx.cell? ⟨kc, 0, none⟩ = some (.pointer (some ⟨br, 0, none⟩))) (.get 0 (.get 2 (.get 4 (.two 1 (.two 3 (.two 5 (.get 6 (.one 7 (.one 8 .done))) 7 (.one 5 (.get 6 (.one 8 .done)))) 7 (.one 3 (.one 5 (.get 6 (.one 8 .done))))) 7 (.one 1 (.one 3 (.one 5 (.get 6 (.one 8 .done))))))))) (by kernel_rfl) (by kernel_rfl) (fun c a d v w h => ?_) HT.out.cellk ?_
    case refine_1 =>
      obtain ⟨h1, h2⟩ := h
      refine ⟨?_, h2⟩
      cases d <;> exact h1
    case refine_2 =>
      apply wpT_get rfl
      · go_simp
      · intro wS hS
        have k0 := hS
        go_simp
        try rfl
      intro K hK
      go_simp
      refine hK _ ?_
      clear hK K
      apply wpT_get rfl
      · go_simp
      · intro wS hS
        have k0 := hS
        go_simp
        try rfl
      intro K hK
      go_simp
      refine hK _ ?_
      clear hK K
      apply wpT_get rfl
      · go_simp
      · intro wS hS
        have k0 := hS
        go_simp
        try rfl
      intro K hK
      go_simp
      refine hK _ ?_
      clear hK K
      refine wpT_two rfl rfl (fun K hK => ?_) (fun K hK => ?_)
      case refine_1 =>
        go_wp2_with fail
        refine (rdnum_any W0 _ br l0 dp HT.out.rd).mono ?_
        intro e w1 he
        rcases he.split with ⟨x0, l1, v0, hp, rfl, rfl, hs, hc⟩ | ⟨hp, u, rfl, hc⟩
        case inr =>
          have HPP := Lib.hid (show typI d l0 = none by rw [HP.out, hp]; rfl)
          have HC := Lib.hid (HT.out.chg.trans hc (fun _ _ e => e))
          clear hp hc he
          go_wp2_with fail
          exact ⟨rfl, u, rfl, HPP.out, HC.out⟩
        have HP := Lib.hid (show typI d l0 = bindP (textP l1) fun x1 l2 => bindP (textP l2) fun x2 l3 => bindP (takesP (typP d) l3) fun x3 l4 => bindP (takesP (typP d) l4) fun x4 l5 => some (Ty.mk x0 x1 x2 x3 x4, l5) by rw [HP.out, hp]; rfl)
        have HX0 := Lib.hid (numP_in hp)
        have HT := Lib.hid (HT.out.call HBR.out HKN.out hs hc)
        clear hp hs hc he
        go_wp2_with fail
        refine hK _ _ HT.out.cellk ?_
        clear hK K
        refine wpT_two rfl rfl (fun K hK => ?_) (fun K hK => ?_)
        case refine_1 =>
          go_wp2_with fail
          refine (rdtext_any W0 _ br l1 dp HT.out.rd).mono ?_
          intro e w2 he
          rcases he.split with ⟨x1, l2, v1, hp, rfl, rfl, hs, hc⟩ | ⟨hp, u, rfl, hc⟩
          case inr =>
            have HPP := Lib.hid (show typI d l0 = none by rw [HP.out, hp]; rfl)
            have HC := Lib.hid (HT.out.chg.trans hc (fun _ _ e => e))
            clear hp hc he
            go_wp2_with fail
            exact ⟨rfl, u, rfl, HPP.out, HC.out⟩
          have HP := Lib.hid (show typI d l0 = bindP (textP l2) fun x2 l3 => bindP (takesP (typP d) l3) fun x3 l4 => bindP (takesP (typP d) l4) fun x4 l5 => some (Ty.mk x0 x1 x2 x3 x4, l5) by rw [HP.out, hp]; rfl)
          have HX1 := Lib.hid (show x1.size ≤ Reach by have h1 := textP_size hp; have h2 := HT.out.rd.len; unfold Reach; omega)
          have HT := Lib.hid (HT.out.call HBR.out HKN.out hs hc)
          clear hp hs hc he
          go_wp2_with fail
          refine hK _ _ HT.out.cellk ?_
          clear hK K
          refine wpT_two rfl rfl (fun K hK => ?_) (fun K hK => ?_)
          case refine_1 =>
            go_wp2_with fail
            refine (rdtext_any W0 _ br l2 dp HT.out.rd).mono ?_
            intro e w3 he
            rcases he.split with ⟨x2, l3, v2, hp, rfl, rfl, hs, hc⟩ | ⟨hp, u, rfl, hc⟩
            case inr =>
              have HPP := Lib.hid (show typI d l0 = none by rw [HP.out, hp]; rfl)
              have HC := Lib.hid (HT.out.chg.trans hc (fun _ _ e => e))
              clear hp hc he
              go_wp2_with fail
              exact ⟨rfl, u, rfl, HPP.out, HC.out⟩
            have HP := Lib.hid (show typI d l0 = bindP (takesP (typP d) l3) fun x3 l4 => bindP (takesP (typP d) l4) fun x4 l5 => some (Ty.mk x0 x1 x2 x3 x4, l5) by rw [HP.out, hp]; rfl)
            have HX2 := Lib.hid (show x2.size ≤ Reach by have h1 := textP_size hp; have h2 := HT.out.rd.len; unfold Reach; omega)
            have HT := Lib.hid (HT.out.call HBR.out HKN.out hs hc)
            clear hp hs hc he
            go_wp2_with fail
            refine hK _ _ HT.out.cellk ?_
            clear hK K
            apply wpT_get rfl
            · go_simp
            · intro wS hS
              go_simp
              try rfl
            intro K hK
            go_simp
            refine hK _ ?_
            clear hK K
            have HTS : Hid (T1S W0 w (w3.alloc (.cells #[.int .i64 x0, .string x1, .string x2, .slice none 0 0, .slice none 0 0] 44)) br kc dp (some w3.heap.size) [.int .i64 x0, .string x1, .string x2, .slice none 0 0, .slice none 0 0] l3) := Lib.hid (HT.out.none_any.alloc w3.heap.size rfl)
            refine wpT_one rfl (fun K hK => ?_)
            go_wp2_with fail
            have HT : Hid (T1S W0 w (w3.alloc (.cells #[.int .i64 0, .string ⟨#[]⟩, .string ⟨#[]⟩, .slice none 0 0, .slice none 0 0] 44)) br kc dp (some (w3.heap.size)) [.int .i64 0, .string ⟨#[]⟩, .string ⟨#[]⟩, .slice none 0 0, .slice none 0 0] l3) := Lib.hid (HT.out.alloc (w3.heap.size) rfl)
            refine hK _ _ HT.out.cellk ?_
            clear hK K
            refine wpT_one rfl (fun K hK => ?_)
            obtain ⟨q1, q2, hbl⟩ := HT.out.loc _ rfl
            have HTC := Lib.hid HTS.out.cellk
            have f0 : (w3.alloc (.cells #[.int .i64 0, .string ⟨#[]⟩, .string ⟨#[]⟩, .slice none 0 0, .slice none 0 0] 44)).frozen? ⟨w3.heap.size, 0, none⟩ = false := free_at hbl 0
            have c0 : (w3.alloc (.cells #[.int .i64 0, .string ⟨#[]⟩, .string ⟨#[]⟩, .slice none 0 0, .slice none 0 0] 44)).cell? ⟨w3.heap.size, 0, none⟩ = some (.int .i64 0) := (cell_at hbl 0).trans rfl
            have f1 : (w3.alloc (.cells #[.int .i64 0, .string ⟨#[]⟩, .string ⟨#[]⟩, .slice none 0 0, .slice none 0 0] 44)).frozen? ⟨w3.heap.size, 1, none⟩ = false := free_at hbl 1
            have c1 : (w3.alloc (.cells #[.int .i64 0, .string ⟨#[]⟩, .string ⟨#[]⟩, .slice none 0 0, .slice none 0 0] 44)).cell? ⟨w3.heap.size, 1, none⟩ = some (.string ⟨#[]⟩) := (cell_at hbl 1).trans rfl
            have f2 : (w3.alloc (.cells #[.int .i64 0, .string ⟨#[]⟩, .string ⟨#[]⟩, .slice none 0 0, .slice none 0 0] 44)).frozen? ⟨w3.heap.size, 2, none⟩ = false := free_at hbl 2
            have c2 : (w3.alloc (.cells #[.int .i64 0, .string ⟨#[]⟩, .string ⟨#[]⟩, .slice none 0 0, .slice none 0 0] 44)).cell? ⟨w3.heap.size, 2, none⟩ = some (.string ⟨#[]⟩) := (cell_at hbl 2).trans rfl
            have f3 : (w3.alloc (.cells #[.int .i64 0, .string ⟨#[]⟩, .string ⟨#[]⟩, .slice none 0 0, .slice none 0 0] 44)).frozen? ⟨w3.heap.size, 3, none⟩ = false := free_at hbl 3
            have c3 : (w3.alloc (.cells #[.int .i64 0, .string ⟨#[]⟩, .string ⟨#[]⟩, .slice none 0 0, .slice none 0 0] 44)).cell? ⟨w3.heap.size, 3, none⟩ = some (.slice none 0 0) := (cell_at hbl 3).trans rfl
            have f4 : (w3.alloc (.cells #[.int .i64 0, .string ⟨#[]⟩, .string ⟨#[]⟩, .slice none 0 0, .slice none 0 0] 44)).frozen? ⟨w3.heap.size, 4, none⟩ = false := free_at hbl 4
            have c4 : (w3.alloc (.cells #[.int .i64 0, .string ⟨#[]⟩, .string ⟨#[]⟩, .slice none 0 0, .slice none 0 0] 44)).cell? ⟨w3.heap.size, 4, none⟩ = some (.slice none 0 0) := (cell_at hbl 4).trans rfl
            clear hbl q1 q2
            go_wp2_with fail
            refine hK _ _ HTC.out ?_
            clear hK K
            refine wpT_done ?_
            exact ⟨x0, x1, x2, l3, _, HP.out, HX0.out, HX1.out, HX2.out, rfl, HTS.out⟩
          case refine_2 =>
            go_wp2_with fail
            have HT : Hid (T1S W0 w (w2.alloc (.cells #[.int .i64 0, .string ⟨#[]⟩, .string ⟨#[]⟩, .slice none 0 0, .slice none 0 0] 44)) br kc dp (some (w2.heap.size)) [.int .i64 0, .string ⟨#[]⟩, .string ⟨#[]⟩, .slice none 0 0, .slice none 0 0] l2) := Lib.hid (HT.out.alloc (w2.heap.size) rfl)
            refine hK _ _ HT.out.cellk ?_
            clear hK K
            refine wpT_one rfl (fun K hK => ?_)
            go_wp2_with fail
            refine (rdtext_any W0 _ br l2 dp HT.out.rd).mono ?_
            intro e w3 he
            rcases he.split with ⟨x2, l3, v2, hp, rfl, rfl, hs, hc⟩ | ⟨hp, u, rfl, hc⟩
            case inr =>
              have HPP := Lib.hid (show typI d l0 = none by rw [HP.out, hp]; rfl)
              have HC := Lib.hid (HT.out.chg.trans hc (fun _ _ e => e))
              clear hp hc he
              go_wp2_with fail
              exact ⟨rfl, u, rfl, HPP.out, HC.out⟩
            have HP := Lib.hid (show typI d l0 = bindP (takesP (typP d) l3) fun x3 l4 => bindP (takesP (typP d) l4) fun x4 l5 => some (Ty.mk x0 x1 x2 x3 x4, l5) by rw [HP.out, hp]; rfl)
            have HX2 := Lib.hid (show x2.size ≤ Reach by have h1 := textP_size hp; have h2 := HT.out.rd.len; unfold Reach; omega)
            have HT := Lib.hid (HT.out.call HBR.out HKN.out hs hc)
            clear hp hs hc he
            go_wp2_with fail
            refine hK _ _ HT.out.cellk ?_
            clear hK K
            apply wpT_get rfl
            · go_simp
            · intro wS hS
              go_simp
              try rfl
            intro K hK
            go_simp
            refine hK _ ?_
            clear hK K
            refine wpT_one rfl (fun K hK => ?_)
            obtain ⟨q1, q2, hbl⟩ := HT.out.loc _ rfl
            have HTS := Lib.hid (T1S.fill HT.out HBR.out HKL.out HW0.out x0 x1 x2)
            have HTC := Lib.hid HTS.out.cellk
            have f0 : w3.frozen? ⟨w2.heap.size, 0, none⟩ = false := free_at hbl 0
            have c0 : w3.cell? ⟨w2.heap.size, 0, none⟩ = some (.int .i64 0) := (cell_at hbl 0).trans rfl
            have f1 : w3.frozen? ⟨w2.heap.size, 1, none⟩ = false := free_at hbl 1
            have c1 : w3.cell? ⟨w2.heap.size, 1, none⟩ = some (.string ⟨#[]⟩) := (cell_at hbl 1).trans rfl
            have f2 : w3.frozen? ⟨w2.heap.size, 2, none⟩ = false := free_at hbl 2
            have c2 : w3.cell? ⟨w2.heap.size, 2, none⟩ = some (.string ⟨#[]⟩) := (cell_at hbl 2).trans rfl
            have f3 : w3.frozen? ⟨w2.heap.size, 3, none⟩ = false := free_at hbl 3
            have c3 : w3.cell? ⟨w2.heap.size, 3, none⟩ = some (.slice none 0 0) := (cell_at hbl 3).trans rfl
            have f4 : w3.frozen? ⟨w2.heap.size, 4, none⟩ = false := free_at hbl 4
            have c4 : w3.cell? ⟨w2.heap.size, 4, none⟩ = some (.slice none 0 0) := (cell_at hbl 4).trans rfl
            clear hbl q1 q2
            go_wp2_with fail
            refine hK _ _ HTC.out ?_
            clear hK K
            refine wpT_done ?_
            exact ⟨x0, x1, x2, l3, _, HP.out, HX0.out, HX1.out, HX2.out, rfl, HTS.out⟩
        case refine_2 =>
          go_wp2_with fail
          have HT : Hid (T1S W0 w (w1.alloc (.cells #[.int .i64 0, .string ⟨#[]⟩, .string ⟨#[]⟩, .slice none 0 0, .slice none 0 0] 44)) br kc dp (some (w1.heap.size)) [.int .i64 0, .string ⟨#[]⟩, .string ⟨#[]⟩, .slice none 0 0, .slice none 0 0] l1) := Lib.hid (HT.out.alloc (w1.heap.size) rfl)
          refine hK _ _ HT.out.cellk ?_
          clear hK K
          refine wpT_one rfl (fun K hK => ?_)
          go_wp2_with fail
          refine (rdtext_any W0 _ br l1 dp HT.out.rd).mono ?_
          intro e w2 he
          rcases he.split with ⟨x1, l2, v1, hp, rfl, rfl, hs, hc⟩ | ⟨hp, u, rfl, hc⟩
          case inr =>
            have HPP := Lib.hid (show typI d l0 = none by rw [HP.out, hp]; rfl)
            have HC := Lib.hid (HT.out.chg.trans hc (fun _ _ e => e))
            clear hp hc he
            go_wp2_with fail
            exact ⟨rfl, u, rfl, HPP.out, HC.out⟩
          have HP := Lib.hid (show typI d l0 = bindP (textP l2) fun x2 l3 => bindP (takesP (typP d) l3) fun x3 l4 => bindP (takesP (typP d) l4) fun x4 l5 => some (Ty.mk x0 x1 x2 x3 x4, l5) by rw [HP.out, hp]; rfl)
          have HX1 := Lib.hid (show x1.size ≤ Reach by have h1 := textP_size hp; have h2 := HT.out.rd.len; unfold Reach; omega)
          have HT := Lib.hid (HT.out.call HBR.out HKN.out hs hc)
          clear hp hs hc he
          go_wp2_with fail
          refine hK _ _ HT.out.cellk ?_
          clear hK K
          refine wpT_one rfl (fun K hK => ?_)
          go_wp2_with fail
          refine (rdtext_any W0 _ br l2 dp HT.out.rd).mono ?_
          intro e w3 he
          rcases he.split with ⟨x2, l3, v2, hp, rfl, rfl, hs, hc⟩ | ⟨hp, u, rfl, hc⟩
          case inr =>
            have HPP := Lib.hid (show typI d l0 = none by rw [HP.out, hp]; rfl)
            have HC := Lib.hid (HT.out.chg.trans hc (fun _ _ e => e))
            clear hp hc he
            go_wp2_with fail
            exact ⟨rfl, u, rfl, HPP.out, HC.out⟩
          have HP := Lib.hid (show typI d l0 = bindP (takesP (typP d) l3) fun x3 l4 => bindP (takesP (typP d) l4) fun x4 l5 => some (Ty.mk x0 x1 x2 x3 x4, l5) by rw [HP.out, hp]; rfl)
          have HX2 := Lib.hid (show x2.size ≤ Reach by have h1 := textP_size hp; have h2 := HT.out.rd.len; unfold Reach; omega)
          have HT := Lib.hid (HT.out.call HBR.out HKN.out hs hc)
          clear hp hs hc he
          go_wp2_with fail
          refine hK _ _ HT.out.cellk ?_
          clear hK K
          apply wpT_get rfl
          · go_simp
          · intro wS hS
            go_simp
            try rfl
          intro K hK
          go_simp
          refine hK _ ?_
          clear hK K
          refine wpT_one rfl (fun K hK => ?_)
          obtain ⟨q1, q2, hbl⟩ := HT.out.loc _ rfl
          have HTS := Lib.hid (T1S.fill HT.out HBR.out HKL.out HW0.out x0 x1 x2)
          have HTC := Lib.hid HTS.out.cellk
          have f0 : w3.frozen? ⟨w1.heap.size, 0, none⟩ = false := free_at hbl 0
          have c0 : w3.cell? ⟨w1.heap.size, 0, none⟩ = some (.int .i64 0) := (cell_at hbl 0).trans rfl
          have f1 : w3.frozen? ⟨w1.heap.size, 1, none⟩ = false := free_at hbl 1
          have c1 : w3.cell? ⟨w1.heap.size, 1, none⟩ = some (.string ⟨#[]⟩) := (cell_at hbl 1).trans rfl
          have f2 : w3.frozen? ⟨w1.heap.size, 2, none⟩ = false := free_at hbl 2
          have c2 : w3.cell? ⟨w1.heap.size, 2, none⟩ = some (.string ⟨#[]⟩) := (cell_at hbl 2).trans rfl
          have f3 : w3.frozen? ⟨w1.heap.size, 3, none⟩ = false := free_at hbl 3
          have c3 : w3.cell? ⟨w1.heap.size, 3, none⟩ = some (.slice none 0 0) := (cell_at hbl 3).trans rfl
          have f4 : w3.frozen? ⟨w1.heap.size, 4, none⟩ = false := free_at hbl 4
          have c4 : w3.cell? ⟨w1.heap.size, 4, none⟩ = some (.slice none 0 0) := (cell_at hbl 4).trans rfl
          clear hbl q1 q2
          go_wp2_with fail
          refine hK _ _ HTC.out ?_
          clear hK K
          refine wpT_done ?_
          exact ⟨x0, x1, x2, l3, _, HP.out, HX0.out, HX1.out, HX2.out, rfl, HTS.out⟩
      case refine_2 =>
        go_wp2_with fail
        have HT : Hid (T1S W0 w ((w.alloc (.cells #[.int .i64 0, .string ⟨#[]⟩, .string ⟨#[]⟩, .slice none 0 0, .slice none 0 0] 44)).alloc (.cells #[.int .i64 0, .string ⟨#[]⟩, .string ⟨#[]⟩, .slice none 0 0, .slice none 0 0] 44)).drew br kc dp (some (w.heap.size + 1)) [.int .i64 0, .string ⟨#[]⟩, .string ⟨#[]⟩, .slice none 0 0, .slice none 0 0] l0) := Lib.hid (HT.out.alloc (w.heap.size + 1) (by simp))
        refine hK _ _ HT.out.cellk ?_
        clear hK K
        refine wpT_one rfl (fun K hK => ?_)
        go_wp2_with fail
        refine (rdnum_any W0 _ br l0 dp HT.out.rd).mono ?_
        intro e w1 he
        rcases he.split with ⟨x0, l1, v0, hp, rfl, rfl, hs, hc⟩ | ⟨hp, u, rfl, hc⟩
        case inr =>
          have HPP := Lib.hid (show typI d l0 = none by rw [HP.out, hp]; rfl)
          have HC := Lib.hid (HT.out.chg.trans hc (fun _ _ e => e))
          clear hp hc he
          go_wp2_with fail
          exact ⟨rfl, u, rfl, HPP.out, HC.out⟩
        have HP := Lib.hid (show typI d l0 = bindP (textP l1) fun x1 l2 => bindP (textP l2) fun x2 l3 => bindP (takesP (typP d) l3) fun x3 l4 => bindP (takesP (typP d) l4) fun x4 l5 => some (Ty.mk x0 x1 x2 x3 x4, l5) by rw [HP.out, hp]; rfl)
        have HX0 := Lib.hid (numP_in hp)
        have HT := Lib.hid (HT.out.call HBR.out HKN.out hs hc)
        clear hp hs hc he
        go_wp2_with fail
        refine hK _ _ HT.out.cellk ?_
        clear hK K
        refine wpT_one rfl (fun K hK => ?_)
        go_wp2_with fail
        refine (rdtext_any W0 _ br l1 dp HT.out.rd).mono ?_
        intro e w2 he
        rcases he.split with ⟨x1, l2, v1, hp, rfl, rfl, hs, hc⟩ | ⟨hp, u, rfl, hc⟩
        case inr =>
          have HPP := Lib.hid (show typI d l0 = none by rw [HP.out, hp]; rfl)
          have HC := Lib.hid (HT.out.chg.trans hc (fun _ _ e => e))
          clear hp hc he
          go_wp2_with fail
          exact ⟨rfl, u, rfl, HPP.out, HC.out⟩
        have HP := Lib.hid (show typI d l0 = bindP (textP l2) fun x2 l3 => bindP (takesP (typP d) l3) fun x3 l4 => bindP (takesP (typP d) l4) fun x4 l5 => some (Ty.mk x0 x1 x2 x3 x4, l5) by rw [HP.out, hp]; rfl)
        have HX1 := Lib.hid (show x1.size ≤ Reach by have h1 := textP_size hp; have h2 := HT.out.rd.len; unfold Reach; omega)
        have HT := Lib.hid (HT.out.call HBR.out HKN.out hs hc)
        clear hp hs hc he
        go_wp2_with fail
        refine hK _ _ HT.out.cellk ?_
        clear hK K
        refine wpT_one rfl (fun K hK => ?_)
        go_wp2_with fail
        refine (rdtext_any W0 _ br l2 dp HT.out.rd).mono ?_
        intro e w3 he
        rcases he.split with ⟨x2, l3, v2, hp, rfl, rfl, hs, hc⟩ | ⟨hp, u, rfl, hc⟩
        case inr =>
          have HPP := Lib.hid (show typI d l0 = none by rw [HP.out, hp]; rfl)
          have HC := Lib.hid (HT.out.chg.trans hc (fun _ _ e => e))
          clear hp hc he
          go_wp2_with fail
          exact ⟨rfl, u, rfl, HPP.out, HC.out⟩
        have HP := Lib.hid (show typI d l0 = bindP (takesP (typP d) l3) fun x3 l4 => bindP (takesP (typP d) l4) fun x4 l5 => some (Ty.mk x0 x1 x2 x3 x4, l5) by rw [HP.out, hp]; rfl)
        have HX2 := Lib.hid (show x2.size ≤ Reach by have h1 := textP_size hp; have h2 := HT.out.rd.len; unfold Reach; omega)
        have HT := Lib.hid (HT.out.call HBR.out HKN.out hs hc)
        clear hp hs hc he
        go_wp2_with fail
        refine hK _ _ HT.out.cellk ?_
        clear hK K
        apply wpT_get rfl
        · go_simp
        · intro wS hS
          go_simp
          try rfl
        intro K hK
        go_simp
        refine hK _ ?_
        clear hK K
        refine wpT_one rfl (fun K hK => ?_)
        obtain ⟨q1, q2, hbl⟩ := HT.out.loc _ rfl
        have HTS := Lib.hid (T1S.fill HT.out HBR.out HKL.out HW0.out x0 x1 x2)
        have HTC := Lib.hid HTS.out.cellk
        have f0 : w3.frozen? ⟨w.heap.size + 1, 0, none⟩ = false := free_at hbl 0
        have c0 : w3.cell? ⟨w.heap.size + 1, 0, none⟩ = some (.int .i64 0) := (cell_at hbl 0).trans rfl
        have f1 : w3.frozen? ⟨w.heap.size + 1, 1, none⟩ = false := free_at hbl 1
        have c1 : w3.cell? ⟨w.heap.size + 1, 1, none⟩ = some (.string ⟨#[]⟩) := (cell_at hbl 1).trans rfl
        have f2 : w3.frozen? ⟨w.heap.size + 1, 2, none⟩ = false := free_at hbl 2
        have c2 : w3.cell? ⟨w.heap.size + 1, 2, none⟩ = some (.string ⟨#[]⟩) := (cell_at hbl 2).trans rfl
        have f3 : w3.frozen? ⟨w.heap.size + 1, 3, none⟩ = false := free_at hbl 3
        have c3 : w3.cell? ⟨w.heap.size + 1, 3, none⟩ = some (.slice none 0 0) := (cell_at hbl 3).trans rfl
        have f4 : w3.frozen? ⟨w.heap.size + 1, 4, none⟩ = false := free_at hbl 4
        have c4 : w3.cell? ⟨w.heap.size + 1, 4, none⟩ = some (.slice none 0 0) := (cell_at hbl 4).trans rfl
        clear hbl q1 q2
        go_wp2_with fail
        refine hK _ _ HTC.out ?_
        clear hK K
        refine wpT_done ?_
        exact ⟨x0, x1, x2, l3, _, HP.out, HX0.out, HX1.out, HX2.out, rfl, HTS.out⟩
  case rest =>
    intro e a wx he
    rename_i K hK
    cases e with
    | panic c =>
      obtain ⟨h1, u, rfl, h3, h4⟩ := he
      refine ⟨h1, ?_⟩
      rw [h3]
      exact ⟨u, rfl, h4⟩
    | normal =>
      obtain ⟨x0, x1, x2, l3, kl, hp, hx0, hx1, hx2, rfl, ht⟩ := he
      have HP := Lib.hid hp; have HX0 := Lib.hid hx0; have HX1 := Lib.hid hx1; have HX2 := Lib.hid hx2; have HT := Lib.hid ht
      have k0 := HT.out.cellk
      clear hp hx0 hx1 hx2 ht
      refine hK _ _ ?_
      clear hK K
      go_wp2_with fail
      refine (takesTy_any W0 _ br dp _ _ e_l o_l l3 HT.out.rd).mono ?_
      intro e w4 he
      rcases he.split with ⟨x3, l4, v3, hp, rfl, hv, hs, hc⟩ | ⟨hp, u, rfl, hc⟩
      case inr =>
        have HPP := Lib.hid (show typI d l0 = none by rw [HP.out, hp]; rfl)
        have HC := Lib.hid (HT.out.chg.trans hc (fun _ _ e => e))
        clear hp hc he
        go_wp2_with fail
        refine ⟨rfl, ?_⟩
        rw [HPP.out]
        exact ⟨_, rfl, HC.out⟩
      have HP := Lib.hid (show typI d l0 = bindP (takesP (typP d) l4) fun x4 l5 => some (Ty.mk x0 x1 x2 x3 x4, l5) by rw [HP.out, hp]; rfl)
      obtain ⟨A3, c3, rfl, y⟩ := ValL.slTy hv
      have HN3 := Lib.hid (show br < wx.heap.size ∧ kl < wx.heap.size ∧ w.heap.size < wx.heap.size from ⟨Nat.lt_of_lt_of_le HBR.out HT.out.chg.size, (HT.out.loc kl rfl).2.1, lt_of_block HT.out.res⟩)
      have hset : Chg (fun k => k = kl) w4 (w4.setCell ⟨kl, 3, none⟩ (.slice A3 x3.length c3)) := (Chg.refl (fun k => k = kl) w4).setCell (p := ⟨kl, 3, none⟩) (fun _ => rfl) _
      have HY3 := Lib.hid (y.later hset (fun k q => by have := HN3.out; omega))
      have HT := Lib.hid (HT.out.call HBR.out HKN.out hs hc)
      have f : w4.frozen? ⟨kl, 3, none⟩ = false := free_at (HT.out.loc kl rfl).2.2 3
      have c_ : w4.cell? ⟨kl, 3, none⟩ = some (.slice none 0 0) := (cell_at (HT.out.loc kl rfl).2.2 3).trans rfl
      have HT : Hid (T1S W0 w (w4.setCell ⟨kl, 3, none⟩ (.slice A3 x3.length c3)) br kc dp (some kl) [.int .i64 x0, .string x1, .string x2, .slice A3 x3.length c3, .slice none 0 0] l4) := Lib.hid (HT.out.put HBR.out HKL.out HW0.out 3 (.slice A3 x3.length c3))
      clear k0 y hset hp hs hc he hv
      have k0 : (w4.setCell ⟨kl, 3, none⟩ (.slice A3 x3.length c3)).cell? ⟨kc, 0, none⟩ = some (.pointer (some ⟨br, 0, none⟩)) := HT.out.cellk
      go_wp2_with fail
      clear f c_
      refine (takesTy_any W0 _ br dp _ _ e_l o_l l4 HT.out.rd).mono ?_
      intro e w5 he
      rcases he.split with ⟨x4, l5, v4, hp, rfl, hv, hs, hc⟩ | ⟨hp, u, rfl, hc⟩
      case inr =>
        have HPP := Lib.hid (show typI d l0 = none by rw [HP.out, hp]; rfl)
        have HC := Lib.hid (HT.out.chg.trans hc (fun _ _ e => e))
        clear hp hc he
        go_wp2_with fail
        refine ⟨rfl, ?_⟩
        rw [HPP.out]
        exact ⟨_, rfl, HC.out⟩
      have HP := Lib.hid (show typI d l0 = some (Ty.mk x0 x1 x2 x3 x4, l5) by rw [HP.out, hp]; rfl)
      obtain ⟨A4, c4, rfl, y⟩ := ValL.slTy hv
      have HN4 := Lib.hid (show br < (w4.setCell ⟨kl, 3, none⟩ (.slice A3 x3.length c3)).heap.size ∧ kl < (w4.setCell ⟨kl, 3, none⟩ (.slice A3 x3.length c3)).heap.size ∧ w.heap.size < (w4.setCell ⟨kl, 3, none⟩ (.slice A3 x3.length c3)).heap.size from ⟨Nat.lt_of_lt_of_le HBR.out HT.out.chg.size, (HT.out.loc kl rfl).2.1, lt_of_block HT.out.res⟩)
      have hset : Chg (fun k => k = kl) w5 (w5.setCell ⟨kl, 4, none⟩ (.slice A4 x4.length c4)) := (Chg.refl (fun k => k = kl) w5).setCell (p := ⟨kl, 4, none⟩) (fun _ => rfl) _
      have HY3 := Lib.hid ((HY3.out.later hc (fun k q => by have := HN3.out; omega)).later hset (fun k q => by have := HN3.out; omega))
      have HY4 := Lib.hid (y.later hset (fun k q => by have := HN4.out; omega))
      have HT := Lib.hid (HT.out.call HBR.out HKN.out hs hc)
      have f : w5.frozen? ⟨kl, 4, none⟩ = false := free_at (HT.out.loc kl rfl).2.2 4
      have c_ : w5.cell? ⟨kl, 4, none⟩ = some (.slice none 0 0) := (cell_at (HT.out.loc kl rfl).2.2 4).trans rfl
      have HT : Hid (T1S W0 w (w5.setCell ⟨kl, 4, none⟩ (.slice A4 x4.length c4)) br kc dp (some kl) [.int .i64 x0, .string x1, .string x2, .slice A3 x3.length c3, .slice A4 x4.length c4] l5) := Lib.hid (HT.out.put HBR.out HKL.out HW0.out 4 (.slice A4 x4.length c4))
      clear k0 y hset hp hs hc he hv
      have g_0 : (w5.setCell ⟨kl, 4, none⟩ (.slice A4 x4.length c4)).cell? ⟨kl, 0, none⟩ = some (.int .i64 x0) := (cell_at (HT.out.loc kl rfl).2.2 0).trans rfl
      have r0 : (w5.setCell ⟨kl, 4, none⟩ (.slice A4 x4.length c4)).frozen? ⟨w.heap.size, 0, none⟩ = false := free_at HT.out.res 0
      have s_0 : (w5.setCell ⟨kl, 4, none⟩ (.slice A4 x4.length c4)).cell? ⟨w.heap.size, 0, none⟩ = some (.int .i64 0) := (cell_at HT.out.res 0).trans rfl
      have g_1 : (w5.setCell ⟨kl, 4, none⟩ (.slice A4 x4.length c4)).cell? ⟨kl, 1, none⟩ = some (.string x1) := (cell_at (HT.out.loc kl rfl).2.2 1).trans rfl
      have r1 : (w5.setCell ⟨kl, 4, none⟩ (.slice A4 x4.length c4)).frozen? ⟨w.heap.size, 1, none⟩ = false := free_at HT.out.res 1
      have s_1 : (w5.setCell ⟨kl, 4, none⟩ (.slice A4 x4.length c4)).cell? ⟨w.heap.size, 1, none⟩ = some (.string ⟨#[]⟩) := (cell_at HT.out.res 1).trans rfl
      have g_2 : (w5.setCell ⟨kl, 4, none⟩ (.slice A4 x4.length c4)).cell? ⟨kl, 2, none⟩ = some (.string x2) := (cell_at (HT.out.loc kl rfl).2.2 2).trans rfl
      have r2 : (w5.setCell ⟨kl, 4, none⟩ (.slice A4 x4.length c4)).frozen? ⟨w.heap.size, 2, none⟩ = false := free_at HT.out.res 2
      have s_2 : (w5.setCell ⟨kl, 4, none⟩ (.slice A4 x4.length c4)).cell? ⟨w.heap.size, 2, none⟩ = some (.string ⟨#[]⟩) := (cell_at HT.out.res 2).trans rfl
      have g_3 : (w5.setCell ⟨kl, 4, none⟩ (.slice A4 x4.length c4)).cell? ⟨kl, 3, none⟩ = some (.slice A3 x3.length c3) := (cell_at (HT.out.loc kl rfl).2.2 3).trans rfl
      have r3 : (w5.setCell ⟨kl, 4, none⟩ (.slice A4 x4.length c4)).frozen? ⟨w.heap.size, 3, none⟩ = false := free_at HT.out.res 3
      have s_3 : (w5.setCell ⟨kl, 4, none⟩ (.slice A4 x4.length c4)).cell? ⟨w.heap.size, 3, none⟩ = some (.slice none 0 0) := (cell_at HT.out.res 3).trans rfl
      have g_4 : (w5.setCell ⟨kl, 4, none⟩ (.slice A4 x4.length c4)).cell? ⟨kl, 4, none⟩ = some (.slice A4 x4.length c4) := (cell_at (HT.out.loc kl rfl).2.2 4).trans rfl
      have r4 : (w5.setCell ⟨kl, 4, none⟩ (.slice A4 x4.length c4)).frozen? ⟨w.heap.size, 4, none⟩ = false := free_at HT.out.res 4
      have s_4 : (w5.setCell ⟨kl, 4, none⟩ (.slice A4 x4.length c4)).cell? ⟨w.heap.size, 4, none⟩ = some (.slice none 0 0) := (cell_at HT.out.res 4).trans rfl
      have HBr := Lib.hid HT.out.res
      have HBr := Lib.hid (show ((w5.setCell ⟨kl, 4, none⟩ (.slice A4 x4.length c4)).setCell ⟨w.heap.size, 0, none⟩ (.int .i64 x0)).heap[w.heap.size]? = some (.cells #[.int .i64 x0, .string ⟨#[]⟩, .string ⟨#[]⟩, .slice none 0 0, .slice none 0 0] 44 (0, 0)) from set_at HBr.out 0 (.int .i64 x0))
      have HBr := Lib.hid (show (((w5.setCell ⟨kl, 4, none⟩ (.slice A4 x4.length c4)).setCell ⟨w.heap.size, 0, none⟩ (.int .i64 x0)).setCell ⟨w.heap.size, 1, none⟩ (.string x1)).heap[w.heap.size]? = some (.cells #[.int .i64 x0, .string x1, .string ⟨#[]⟩, .slice none 0 0, .slice none 0 0] 44 (0, 0)) from set_at HBr.out 1 (.string x1))
      have HBr := Lib.hid (show ((((w5.setCell ⟨kl, 4, none⟩ (.slice A4 x4.length c4)).setCell ⟨w.heap.size, 0, none⟩ (.int .i64 x0)).setCell ⟨w.heap.size, 1, none⟩ (.string x1)).setCell ⟨w.heap.size, 2, none⟩ (.string x2)).heap[w.heap.size]? = some (.cells #[.int .i64 x0, .string x1, .string x2, .slice none 0 0, .slice none 0 0] 44 (0, 0)) from set_at HBr.out 2 (.string x2))
      have HBr := Lib.hid (show (((((w5.setCell ⟨kl, 4, none⟩ (.slice A4 x4.length c4)).setCell ⟨w.heap.size, 0, none⟩ (.int .i64 x0)).setCell ⟨w.heap.size, 1, none⟩ (.string x1)).setCell ⟨w.heap.size, 2, none⟩ (.string x2)).setCell ⟨w.heap.size, 3, none⟩ (.slice A3 x3.length c3)).heap[w.heap.size]? = some (.cells #[.int .i64 x0, .string x1, .string x2, .slice A3 x3.length c3, .slice none 0 0] 44 (0, 0)) from set_at HBr.out 3 (.slice A3 x3.length c3))
      have HBr := Lib.hid (show ((((((w5.setCell ⟨kl, 4, none⟩ (.slice A4 x4.length c4)).setCell ⟨w.heap.size, 0, none⟩ (.int .i64 x0)).setCell ⟨w.heap.size, 1, none⟩ (.string x1)).setCell ⟨w.heap.size, 2, none⟩ (.string x2)).setCell ⟨w.heap.size, 3, none⟩ (.slice A3 x3.length c3)).setCell ⟨w.heap.size, 4, none⟩ (.slice A4 x4.length c4)).heap[w.heap.size]? = some (.cells #[.int .i64 x0, .string x1, .string x2, .slice A3 x3.length c3, .slice A4 x4.length c4] 44 (0, 0)) from set_at HBr.out 4 (.slice A4 x4.length c4))
      have hset : Chg (fun k => k = w.heap.size) (w5.setCell ⟨kl, 4, none⟩ (.slice A4 x4.length c4)) ((((((w5.setCell ⟨kl, 4, none⟩ (.slice A4 x4.length c4)).setCell ⟨w.heap.size, 0, none⟩ (.int .i64 x0)).setCell ⟨w.heap.size, 1, none⟩ (.string x1)).setCell ⟨w.heap.size, 2, none⟩ (.string x2)).setCell ⟨w.heap.size, 3, none⟩ (.slice A3 x3.length c3)).setCell ⟨w.heap.size, 4, none⟩ (.slice A4 x4.length c4)) := ((((((Chg.refl (fun k => k = w.heap.size) (w5.setCell ⟨kl, 4, none⟩ (.slice A4 x4.length c4))).setCell (p := ⟨w.heap.size, 0, none⟩) (fun _ => rfl) (.int .i64 x0)).setCell (p := ⟨w.heap.size, 1, none⟩) (fun _ => rfl) (.string x1)).setCell (p := ⟨w.heap.size, 2, none⟩) (fun _ => rfl) (.string x2)).setCell (p := ⟨w.heap.size, 3, none⟩) (fun _ => rfl) (.slice A3 x3.length c3)).setCell (p := ⟨w.heap.size, 4, none⟩) (fun _ => rfl) (.slice A4 x4.length c4))
      have HS := Lib.hid (HT.out.rd.keep hset (fun q => by have := HBR.out; omega) (fun k q => by have := HW0.out; omega))
      have HC := Lib.hid (HT.out.chg.trans hset (fun i hi q => by omega))
      have HY3 := Lib.hid (HY3.out.later hset (fun k q => by have := HN3.out; omega))
      have HY4 := Lib.hid (HY4.out.later hset (fun k q => by have := HN4.out; omega))
      have HM := Lib.hid (show w.heap.size ≤ wx.heap.size ∧ w.heap.size ≤ (w4.setCell ⟨kl, 3, none⟩ (.slice A3 x3.length c3)).heap.size from ⟨Nat.le_of_lt HN3.out.2.2, Nat.le_of_lt HN4.out.2.2⟩)
      have hd : ∀ (i : Nat) (v : Value), ([.int .i64 x0, .string x1, .string x2, .slice A3 x3.length c3, .slice A4 x4.length c4] : List Value)[i]? = some v → ((((((w5.setCell ⟨kl, 4, none⟩ (.slice A4 x4.length c4)).setCell ⟨w.heap.size, 0, none⟩ (.int .i64 x0)).setCell ⟨w.heap.size, 1, none⟩ (.string x1)).setCell ⟨w.heap.size, 2, none⟩ (.string x2)).setCell ⟨w.heap.size, 3, none⟩ (.slice A3 x3.length c3)).setCell ⟨w.heap.size, 4, none⟩ (.slice A4 x4.length c4)).cell? ⟨w.heap.size, i, none⟩ = some v := fun i v q => by rw [cell_at HBr.out]; simpa using q
      have HD := Lib.hid hd
      clear hd hset
      go_wp2_with fail
      refine bodyPost_ret (v := .agg #[.int .i64 x0, .string x1, .string x2, .slice A3 x3.length c3, .slice A4 x4.length c4]) (by have d0 := HD.out 0 _ rfl; have d1 := HD.out 1 _ rfl; have d2 := HD.out 2 _ rfl; have d3 := HD.out 3 _ rfl; have d4 := HD.out 4 _ rfl; simp [results, Try.results97, go_sem, d0, d1, d2, d3, d4]) rfl ?_
      rw [HP.out]
      exact ⟨_, rfl, ⟨_, rfl, Ty.shut (w := NewW w.heap.size none _) (t := (Ty.mk x0 x1 x2 x3 x4)) HX0.out HX1.out HX2.out (HY3.out.low HM.out.1) (HY4.out.low HM.out.2)⟩, HS.out, HC.out⟩
    | _ => exact he.elim

end Go.Proofs.Ytghnaaahkbnhlaa
