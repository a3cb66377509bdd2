/-
  The walk of export's Encode: the bytes of a unit, or an error. The condition: the unit reads.
-/
import Derived.Test.YtghnaaahkbnhlaaEncC
import Derived.Test.YtghnaaahkbnhlaaShal
import Derived.Test.YtghnaaahkbnhlaaSums
namespace Go.Proofs.Ytghnaaahkbnhlaa
open Go.RowKit
set_option linter.unusedVariables false

mutual
theorem oneTy (W0 : World) (bw : Nat) : ∀ t : Ty, OneTy W0 bw t
  | .mk k p n xs ys => wTy_any W0 bw _ (oneTyL W0 bw xs) (oneTyL W0 bw ys)
theorem oneTyL (W0 : World) (bw : Nat) : ∀ (l : List Ty) (x : Ty), x ∈ l → OneTy W0 bw x
  | [], x, hx => by cases hx
  | t :: r, x, hx => by
    rcases List.mem_cons.1 hx with e | e
    · rw [e]; exact oneTy W0 bw t
    · exact oneTyL W0 bw r x e
end
mutual
theorem oneEx (W0 : World) (bw : Nat) : ∀ t : Ex, OneEx W0 bw t
  | .mk o n s xs => wEx_any W0 bw _ (oneExL W0 bw xs)
theorem oneExL (W0 : World) (bw : Nat) : ∀ (l : List Ex) (x : Ex), x ∈ l → OneEx W0 bw x
  | [], x, hx => by cases hx
  | t :: r, x, hx => by
    rcases List.mem_cons.1 hx with e | e
    · rw [e]; exact oneEx W0 bw t
    · exact oneExL W0 bw r x e
end
mutual
theorem oneSt (W0 : World) (bw : Nat) : ∀ t : St, OneSt W0 bw t
  | .mk o n es bs ls => wSt_any W0 bw _ (fun x _ => oneEx W0 bw x) (oneStL W0 bw bs) (oneStL W0 bw ls)
theorem oneStL (W0 : World) (bw : Nat) : ∀ (l : List St) (x : St), x ∈ l → OneSt W0 bw x
  | [], x, hx => by cases hx
  | t :: r, x, hx => by
    rcases List.mem_cons.1 hx with e | e
    · rw [e]; exact oneSt W0 bw t
    · exact oneStL W0 bw r x e
end
theorem oneFld (W0 : World) (bw : Nat) (t : Fld) : OneFld W0 bw t := wFld_any W0 bw t (oneTy W0 bw _)
theorem oneImp (W0 : World) (bw : Nat) (t : Imp) : OneImp W0 bw t := wImp_any W0 bw t
theorem oneDcl (W0 : World) (bw : Nat) (t : Dcl) : OneDcl W0 bw t := wDcl_any W0 bw t (oneTy W0 bw _) (fun x _ => oneFld W0 bw x)
theorem oneFn (W0 : World) (bw : Nat) (t : Fn) : OneFn W0 bw t := wFn_any W0 bw t (fun x _ => oneSt W0 bw x)

/-- The bytes of a unit ahead of the sum. -/
def encU (u : Un) : List UInt8 :=
  [77, 85, 49, 10] ++ (txt u.pkg ++ ((le8 u.imports.length ++ encImpL u.imports) ++ ((le8 u.decls.length ++ encDclL u.decls) ++ (le8 u.bodies.length ++ encFnL u.bodies))))
/-- What Encode answers. -/
def encodeP (u : Un) : List UInt8 × Int :=
  if shalU u = false then ([], 3) else if (encU u).length + 8 ≤ 262144 then (encU u ++ le8 (fnv (encU u)), 0) else ([], 2)

def EncPost (w : World) (u : Un) (e : Ending) (w' : World) : Prop := ∃ A c, e = .returned (.tuple #[.slice A (encodeP u).1.length c, .int .i64 (encodeP u).2]) ∧
  w'.ownsRow w.heap.size 5 1 (.slice A (encodeP u).1.length c) (encodeP u).1.length (bytesV (encodeP u).1) ∧ Below w.heap.size w w'

theorem rdB_own {w : World} {base n : Nat} {e : TypeId} {A : Option Addr} {c : Nat} {l : List UInt8} (h : w.ownsRow base e 1 (.slice A n c) n (bytesV l)) : n = l.length ∧ RdB w A l := by
  have hl : l.length = n := by have := h.1; simpa [bytesV_length] using this
  refine ⟨hl.symm, fun k hk => ?_⟩
  rcases h.2 with ⟨e, h0⟩ | ⟨g, cap, cur, hv, _⟩
  · omega
  · injection hv with h1 _ _
    subst h1
    refine ⟨g, 0, rfl, ?_⟩
    have := h.cells (g := g) rfl k (.int .u8 l[k].toNat) (by simp [bytesV, List.getElem?_eq_getElem hk])
    have ha : (⟨g, 0, none⟩ : Addr).add k = ⟨g, 0 + k, none⟩ := by unfold Addr.add; split <;> simp_all
    rwa [ha] at this

theorem WrS.first (w : World) : WrS w (w.alloc (.cells #[.slice none 0 0, .bool false] 54)) w.heap.size ⟨[], false, none⟩ :=
  ⟨(Below.refl _ _).alloc (Nat.le_refl _) _, Nat.le_refl _, ⟨_, alloc_at w _, World.ownsRow_nil _ _ _ _, rfl⟩, by simp, by simp⟩

theorem bodyPost_ret2 {P : Program} {fn : Func} {R : Ending → World → Prop} {a : Act} {w : World} {t u : Tmp} (h : fn.results = #[.tmp t, .tmp u]) (hd : a.defers = []) (hR : R (.returned (.tuple #[a.tmps.getD t undef, a.tmps.getD u undef])) w) : bodyPost P fn R .ret a w :=
  bodyPost_ret (results_tmp2 h _ _ _) hd hR

/-- The world and the writer behind all of a unit's parts. -/
structure Whole (W2 : World) (u : Un) (wz : World) (st : WSt) : Prop where
  own : WrS W2 wz W2.heap.size st
  put : Puts ⟨[], false, none⟩ (encU u) st

theorem In64_wrap (n : Int) : In64 (wrap64 n) := by
  unfold In64 wrap64
  omega
theorem own_base {w : World} {base base' : Nat} {e : TypeId} {size n : Nat} {v : Value} {xs : List Value} (h : w.ownsRow base e size v n xs) (hb : base' ≤ base) : w.ownsRow base' e size v n xs :=
  ⟨h.1, h.2.imp id fun ⟨g, cap, cur, h1, h2, h3⟩ => ⟨g, cap, cur, h1, Nat.le_trans hb h2, h3⟩⟩

set_option maxRecDepth 100000 in
set_option maxHeartbeats 1600000 in
theorem encode_any (w : World) (u : Un) (vs : List Value) (hv : Vals w u.d vs) : Calls Try.prog 13 #[.agg vs.toArray] w (EncPost w u) := by
  have hv' := hv
  obtain ⟨A1, c1, A2, c2, A3, c3, rfl, q0, q1, q2, q3⟩ := Un.opn hv
  have hA0 := alloc_at w (.cells #[.string u.pkg, .slice A1 u.imports.length c1, .slice A2 u.decls.length c2, .slice A3 u.bodies.length c3] 30)
  have hB0 : Below w.heap.size w (w.alloc (.cells #[.string u.pkg, .slice A1 u.imports.length c1, .slice A2 u.decls.length c2, .slice A3 u.bodies.length c3] 30)) := (Below.refl _ _).alloc (Nat.le_refl _) _
  have HV := Lib.hid (hv'.sub (Below.sub hB0))
  have HA0 := Lib.hid hA0
  have HB0 := Lib.hid hB0
  have Q0 := Lib.hid q0; have Q1 := Lib.hid q1; have Q2 := Lib.hid q2; have Q3 := Lib.hid q3
  clear hA0 hB0 q0 q1 q2 q3 hv hv'
  cases hs : shalU u with
  | false =>
    have hz : encodeP u = ([], 3) := by rw [encodeP, if_pos hs]
    have HS := Lib.hid hs; have HZ := Lib.hid hz; clear hs hz
    go_enter Try.func13, Try.ntmps13
    go_wp2_with fail
    refine (shallow_any _ u _ HV.out).mono ?_
    rintro e w2 he
    obtain ⟨rfl, hb2⟩ := he.bool HS.out; clear he
    have HB2 := Lib.hid (HB0.out.trans (hb2.mono HB0.out.size)); clear hb2
    go_wp2_with fail
    refine bodyPost_ret2 rfl rfl ⟨none, 0, ?_, ?_, HB2.out⟩
    · rw [HZ.out]; rfl
    · rw [HZ.out]; exact World.ownsRow_nil _ _ _ _
  | true =>
    have HS := Lib.hid hs; clear hs
    go_enter Try.func13, Try.ntmps13
    go_wp2_with fail
    refine (shallow_any _ u _ HV.out).mono ?_
    rintro e w2 he
    obtain ⟨rfl, hb2⟩ := he.bool HS.out; clear he
    have k0 := Below.sub hb2 _ _ ((cell_at HA0.out 0).trans rfl)
    have k1 := Below.sub hb2 _ _ ((cell_at HA0.out 1).trans rfl)
    have k2 := Below.sub hb2 _ _ ((cell_at HA0.out 2).trans rfl)
    have k3 := Below.sub hb2 _ _ ((cell_at HA0.out 3).trans rfl)
    have K0 := Lib.hid k0; have K1 := Lib.hid k1; have K2 := Lib.hid k2; have K3 := Lib.hid k3
    clear k0 k1 k2 k3
    have HB2 := Lib.hid (HB0.out.trans (hb2.mono HB0.out.size)); clear hb2
    have hsub := Below.sub HB2.out
    have Q1' := Lib.hid (Q1.out.sub hsub); have Q2' := Lib.hid (Q2.out.sub hsub); have Q3' := Lib.hid (Q3.out.sub hsub)
    clear hsub
    have H0 := Lib.hid (WrS.first w2)
    go_wp2_with fail
    refine (bytes_any w2 _ _ _ ⟨#[77, 85, 49, 10]⟩ H0.out (by decide)).mono ?_
    rintro e z1 ⟨rfl, s1, r1⟩
    have f0 := Below.sub r1.own.old _ _ K0.out
    have o1 := r1.own
    have R1 := Lib.hid r1; clear r1
    go_wp2_with fail
    refine (text_any w2 _ _ s1 _ o1 Q0.out).mono ?_
    rintro e z2 ⟨rfl, s2, r2⟩
    have f1 := Below.sub r2.own.old _ _ K1.out
    have o2 := r2.own
    have R2 := Lib.hid r2; clear r2 o1 f0
    go_wp2_with fail
    refine (putsImp_any w2 _ _ s2 u.imports _ _ o2 Q1'.out (fun x _ => oneImp _ _ x)).mono ?_
    rintro e z3 ⟨rfl, s3, r3⟩
    have f2 := Below.sub r3.own.old _ _ K2.out
    have o3 := r3.own
    have R3 := Lib.hid r3; clear r3 o2 f1
    go_wp2_with fail
    refine (putsDcl_any w2 _ _ s3 u.decls _ _ o3 Q2'.out (fun x _ => oneDcl _ _ x)).mono ?_
    rintro e z4 ⟨rfl, s4, r4⟩
    have f3 := Below.sub r4.own.old _ _ K3.out
    have o4 := r4.own
    have R4 := Lib.hid r4; clear r4 o3 f2
    go_wp2_with fail
    refine (putsFn_any w2 _ _ s4 u.bodies _ _ o4 Q3'.out (fun x _ => oneFn _ _ x)).mono ?_
    rintro e z5 ⟨rfl, s5, r5⟩
    have HW : Whole w2 u z5 s5 := ⟨r5.own, R1.out.put.trans (R2.out.put.trans (R3.out.put.trans (R4.out.put.trans r5.put)))⟩
    clear r5 o4 f3 R1 R2 R3 R4
    obtain ⟨v5, hb5, ho5, hr5⟩ := HW.own.at_
    obtain ⟨A5, c5, rfl⟩ := own_slice ho5
    have g0 : z5.cell? ⟨w2.heap.size, 0, none⟩ = some (.slice A5 s5.bs.length c5) := (cell_at hb5 0).trans rfl
    have hrd := (rdB_own ho5).2
    have hle := HW.own.le
    have HRD := Lib.hid hrd
    have HWW := Lib.hid HW
    clear hb5 ho5 hr5 hrd HW
    go_wp2_with fail
    refine (sum_any z5 s5.bs A5 c5 (by unfold Reach; omega) HRD.out).mono ?_
    rintro e w' ⟨rfl, rfl⟩
    go_wp2_with fail
    refine (num_any w2 _ _ s5 _ HWW.out.own (In64_wrap _)).mono ?_
    rintro e z6 ⟨rfl, s6, r6⟩
    obtain ⟨v6, hb6, ho6, hr6⟩ := r6.own.at_
    obtain ⟨A6, c6, rfl⟩ := own_slice ho6
    have e0 : z6.cell? ⟨w2.heap.size, 0, none⟩ = some (.slice A6 s6.bs.length c6) := (cell_at hb6 0).trans rfl
    have e1 : z6.cell? ⟨w2.heap.size, 1, none⟩ = some (.bool s6.long) := (cell_at hb6 1).trans rfl
    have hp6 := HWW.out.put.trans r6.put
    have hp5 := HWW.out.put
    have hold := HB2.out.trans (r6.own.old.mono HB2.out.size)
    have HOLD := Lib.hid hold
    have HO6 := Lib.hid (own_base ho6 HB2.out.size)
    clear hb6 ho6 hr6 r6 hold g0 hle
    by_cases hfit : (encU u).length + 8 ≤ 262144
    · have h5 : s5.bs = encU u := by
        unfold Puts at hp5
        rw [if_neg (by simp), if_pos (by simp; omega)] at hp5
        simpa using hp5.2
      have h6 : s6.long = false ∧ s6.bs = encU u ++ le8 (fnv (encU u)) := by
        unfold Puts at hp6
        rw [if_neg (by simp), if_pos (by simp [le8_length]; omega)] at hp6
        rw [h5] at hp6
        exact ⟨hp6.1, by simpa [fnv] using hp6.2⟩
      have hz : encodeP u = (encU u ++ le8 (fnv (encU u)), 0) := by rw [encodeP, HS.out, if_neg (by simp), if_pos hfit]
      have hl : s6.bs.length = (encodeP u).1.length := by rw [hz, h6.2]
      rw [h6.1] at e1
      have HZ := Lib.hid hz; have H6 := Lib.hid h6; have HL := Lib.hid hl
      clear hz h5 h6 hp5 hp6 hl
      go_wp2_with fail
      refine bodyPost_ret2 rfl rfl ⟨A6, c6, ?_, ?_, HOLD.out⟩
      · rw [HZ.out]
        show Ending.returned (.tuple #[.slice A6 s6.bs.length c6, .int .i64 0]) = _
        rw [HL.out, HZ.out]
      · have := HO6.out
        rw [H6.out.2] at this
        rw [HZ.out]
        exact this
    · have h6 : s6.long = true := by
        unfold Puts at hp6
        rw [if_neg (by simp), if_neg (by simp [le8_length]; omega)] at hp6
        exact hp6
      have hz : encodeP u = ([], 2) := by rw [encodeP, HS.out, if_neg (by simp), if_neg hfit]
      rw [h6] at e1
      have HZ := Lib.hid hz
      clear hz h6 hp5 hp6
      go_wp2_with fail
      refine bodyPost_ret2 rfl rfl ⟨none, 0, ?_, ?_, HOLD.out⟩
      · rw [HZ.out]; rfl
      · rw [HZ.out]; exact World.ownsRow_nil _ _ _ _
end Go.Proofs.Ytghnaaahkbnhlaa
