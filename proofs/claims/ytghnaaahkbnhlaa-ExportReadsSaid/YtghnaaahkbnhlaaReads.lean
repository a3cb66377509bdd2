/-
  The walk of mortiselaw8.ExportReads: it answers true; ahead of it that a unit that was read is of a bounded cost. The condition: the bytes read.
-/
import Derived.Test.YtghnaaahkbnhlaaEncodes
import Derived.Test.YtghnaaahkbnhlaaSame
import Derived.Test.YtghnaaahkbnhlaaRdK
import Derived.Test.YtghnaaahkbnhlaaDecL
namespace Go.Proofs.Ytghnaaahkbnhlaa
open Go.RowKit
set_option linter.unusedVariables false
set_option linter.unusedSimpArgs false
attribute [local irreducible] wpStill wpOrd

mutual
theorem Ty.sz_len : ∀ t : Ty, t.sz ≤ (encTy t).length
  | .mk a b c xs ys => by
    have h1 := Ty.szL_len xs; have h2 := Ty.szL_len ys
    rw [encTy_eq]
    simp only [Ty.sz, Ty.kind, Ty.pkg, Ty.name, Ty.args, Ty.res, List.length_append, le8_length]
    omega
theorem Ty.szL_len : ∀ l : List Ty, Ty.szL l ≤ (encTyL l).length
  | [] => by simp [Ty.szL]
  | t :: r => by
    have h1 := Ty.sz_len t; have h2 := Ty.szL_len r
    simp only [Ty.szL, encTyL, List.length_append]
    omega
end
mutual
theorem Ex.sz_len : ∀ t : Ex, t.sz ≤ (encEx t).length
  | .mk a b c xs => by
    have h1 := Ex.szL_len xs
    rw [encEx_eq]
    simp only [Ex.sz, Ex.op, Ex.n, Ex.name, Ex.kids, List.length_append, le8_length]
    omega
theorem Ex.szL_len : ∀ l : List Ex, Ex.szL l ≤ (encExL l).length
  | [] => by simp [Ex.szL]
  | t :: r => by
    have h1 := Ex.sz_len t; have h2 := Ex.szL_len r
    simp only [Ex.szL, encExL, List.length_append]
    omega
end
mutual
theorem St.sz_len : ∀ t : St, t.sz ≤ (encSt t).length
  | .mk a b es xs ys => by
    have h0 := Ex.szL_len es; have h1 := St.szL_len xs; have h2 := St.szL_len ys
    rw [encSt_eq]
    simp only [St.sz, St.op, St.n, St.exprs, St.body, St.els, List.length_append, le8_length]
    omega
theorem St.szL_len : ∀ l : List St, St.szL l ≤ (encStL l).length
  | [] => by simp [St.szL]
  | t :: r => by
    have h1 := St.sz_len t; have h2 := St.szL_len r
    simp only [St.szL, encStL, List.length_append]
    omega
end
theorem Fld.szL_len : ∀ l : List Fld, Fld.szL l ≤ (encFldL l).length
  | [] => by simp [Fld.szL]
  | t :: r => by
    have h1 := Ty.sz_len t.type; have h2 := Fld.szL_len r
    simp only [Fld.szL, Fld.sz, encFldL, encFld, List.length_append]
    omega
theorem Fld.n_len (l : List Fld) : l.length ≤ (encFldL l).length := by rw [encFldL_flat]; exact flatMap_long encFld_long l
theorem Dcl.szL_len : ∀ l : List Dcl, Dcl.szL l ≤ 2 * (encDclL l).length
  | [] => by simp [Dcl.szL]
  | t :: r => by
    have h1 := Ty.sz_len t.type; have h2 := Dcl.szL_len r; have h3 := Fld.szL_len t.fields; have h4 := Fld.n_len t.fields
    simp only [Dcl.szL, Dcl.sz, encDclL, encDcl, List.length_append, le8_length]
    omega
theorem Fn.szL_len : ∀ l : List Fn, Fn.szL l ≤ (encFnL l).length
  | [] => by simp [Fn.szL]
  | t :: r => by
    have h1 := St.szL_len t.body; have h2 := Fn.szL_len r
    simp only [Fn.szL, Fn.sz, encFnL, encFn, List.length_append, le8_length]
    omega
theorem Un.sz_len (u : Un) : u.sz ≤ 3 * (encU u).length := by
  have h1 := Dcl.szL_len u.decls; have h2 := Fn.szL_len u.bodies
  have h3 : u.imports.length ≤ (encImpL u.imports).length := by rw [encImpL_flat]; exact flatMap_long encImp_long _
  have h4 : u.decls.length ≤ (encDclL u.decls).length := by rw [encDclL_flat]; exact flatMap_long encDcl_long _
  have h5 : u.bodies.length ≤ (encFnL u.bodies).length := by rw [encFnL_flat]; exact flatMap_long encFn_long _
  unfold Un.sz encU
  simp only [List.length_append, le8_length]
  omega
theorem Un.cost_mid (u : Un) (h : u.sz ≤ 1000000) : Un.cost u + 12 ≤ 100000000000000 := by
  have h1 := Imp.costL_sz u.imports; have h2 := Dcl.costL_sz u.decls; have h3 := Fn.costL_sz u.bodies
  unfold Un.sz at h
  unfold Un.cost
  omega
theorem read_cost {b : List UInt8} {u : Un} (h : decodeP b = some u) : Un.cost u + 12 ≤ 100000000000000 := by
  have h1 := (encode_decode h).2
  have h2 := encodeP_ok (u := u) (by rw [h1])
  refine Un.cost_mid u ?_
  have := Un.sz_len u
  omega

def unZ : Un := ⟨⟨#[]⟩, [], [], []⟩
theorem vals_unZ (w : World) : Vals w unZ.d [.string ⟨#[]⟩, .slice none 0 0, .slice none 0 0, .slice none 0 0] :=
  Un.shut (t := unZ) (by decide) (SL.nil w _) (SL.nil w _) (SL.nil w _)
theorem same_unZ (w : World) : Calls Try.prog 15 #[.agg #[.string ⟨#[]⟩, .slice none 0 0, .slice none 0 0, .slice none 0 0], .agg #[.string ⟨#[]⟩, .slice none 0 0, .slice none 0 0, .slice none 0 0]] w (Ans w (.bool true)) :=
  (same_any unZ unZ w _ _ (vals_unZ w) (vals_unZ w)).mono fun e w' h => h.bool ((eqUn_iff _ _).2 rfl)

set_option maxRecDepth 100000 in
set_option maxHeartbeats 3200000 in
theorem reads_any (w : World) (l : List UInt8) (A : Option Addr) (c : Nat) (hn : l.length ≤ maxLen) (hc : l.length ≤ c) (h : RdB w A l) : Calls Try.prog 6 #[.slice A l.length c] w (Ans w (.bool true)) := by
  unfold maxLen at hn
  have HR := Lib.hid h; clear h
  by_cases hg : 300000 < l.length
  · go_enter Try.func6, Try.ntmps6
    go_wp2_with fail
    refine (awake_any _).mono ?_
    rintro e w1 ⟨rfl, hb⟩
    have HB := Lib.hid hb; clear hb
    go_wp2_with fail
    exact bodyPost_ret (results_tmp rfl _ _ _) rfl ⟨rfl, HB.out⟩
  · have HD := Lib.hid (decode_any w l A c HR.out hc (by unfold Reach; omega))
    cases hd : decodeP l with
    | none =>
      go_enter Try.func6, Try.ntmps6
      go_wp2_with fail
      refine HD.out.mono ?_
      intro e w1 he
      unfold DecPost at he
      rw [hd] at he
      obtain ⟨rfl, hb1⟩ := he
      have B1 := Lib.hid hb1; clear hb1 hd
      go_wp2_with (first | (go_at_call 14; refine (num_call _ _).mono ?_; rintro e w' ⟨rfl, rfl⟩))
      refine (same_unZ _).mono ?_
      rintro e w2 ⟨rfl, hb2⟩
      have B2 := Lib.hid ((B1.out.alloc B1.out.size _).trans (hb2.mono (Nat.le_trans B1.out.size (by simp)))); clear hb2
      go_wp2_with fail
      refine (awake_any _).mono ?_
      rintro e w3 ⟨rfl, hb3⟩
      have B3 := Lib.hid (B2.out.trans (hb3.mono B2.out.size)); clear hb3
      go_wp2_with fail
      exact bodyPost_ret (results_tmp rfl _ _ _) rfl ⟨rfl, B3.out⟩
    | some u =>
      have HE := Lib.hid (encode_decode hd).2
      have HC := Lib.hid (read_cost hd)
      have hl0 : 0 < l.length := by
        have h1 := (encode_decode hd).2
        have h2 := (encodeP_ok (u := u) (by rw [h1])).2.2
        rw [h1] at h2
        have h3 := congrArg List.length h2
        rw [List.length_append, le8_length] at h3
        simp only at h3
        omega
      obtain ⟨b, o, rfl, q_⟩ := HR.out 0 hl0
      clear q_ hl0
      go_enter Try.func6, Try.ntmps6
      go_wp2_with fail
      refine HD.out.mono ?_
      intro e w1 he
      unfold DecPost at he
      rw [hd] at he
      obtain ⟨vs, rfl, hv, hb1⟩ := he
      have hv1 := hv.sub (new_sub _ _ _)
      obtain ⟨A1, c1, A2, c2, A3, c3, rfl, q0, q1, q2, q3⟩ := Un.opn hv1
      have hA := (Below.refl w1.heap.size w1).alloc (Nat.le_refl _) (.cells #[.string u.pkg, .slice A1 u.imports.length c1, .slice A2 u.decls.length c2, .slice A3 u.bodies.length c3] 30)
      have HV := Lib.hid (hv1.sub (Below.sub hA))
      have B1 := Lib.hid (hb1.alloc hb1.size (.cells #[.string u.pkg, .slice A1 u.imports.length c1, .slice A2 u.decls.length c2, .slice A3 u.bodies.length c3] 30))
      clear hb1 hd hv hv1 hA q0 q1 q2 q3
      go_wp2_with (first | (go_at_call 14; refine (num_call _ _).mono ?_; rintro e w' ⟨rfl, rfl⟩))
      refine (rencode_any _ u _ HV.out HC.out).mono ?_
      intro e w2 he
      unfold EncPost at he
      rw [HE.out] at he
      obtain ⟨A', c', rfl, own2, hb2⟩ := he
      simp only at own2
      have R2 := (rdB_own own2).2
      have N2 := own_head own2
      have B2 := Lib.hid (B1.out.trans (hb2.mono B1.out.size))
      have hk1 := (HR.out.sub (Below.sub B2.out)).conv c
      have hk2 := conv_any c' R2 N2
      have z1 : (l == l) = true := by simp
      clear own2 hb2 R2 N2
      go_wp2_with fail
      refine (awake_any _).mono ?_
      rintro e w3 ⟨rfl, hb3⟩
      have B3 := Lib.hid (B2.out.trans (hb3.mono B2.out.size)); clear hb3
      go_wp2_with fail
      exact bodyPost_ret (results_tmp rfl _ _ _) rfl ⟨rfl, B3.out⟩
end Go.Proofs.Ytghnaaahkbnhlaa
