/-
  The walk of mortiselaw8.ExportTurned: it answers true. The conditions: the unit reads; so do the bytes that are put behind.
-/
import Derived.Test.YtghnaaahkbnhlaaEncodes
import Derived.Test.YtghnaaahkbnhlaaUnlike
import Derived.Test.YtghnaaahkbnhlaaRdK
import Derived.Test.YtghnaaahkbnhlaaDecL
import Derived.Deep.AppendSrc
import Derived.Laws.BitsAllLaws
namespace Go.Proofs.Ytghnaaahkbnhlaa
open Go.RowKit
set_option linter.unusedVariables false
set_option linter.unusedSimpArgs false
attribute [local irreducible] wpStill wpOrd

theorem add_at (b o j : Nat) : (⟨b, o, none⟩ : Addr).add j = ⟨b, o + j, none⟩ := by unfold Addr.add; split <;> simp_all
theorem bytesV_get {l : List UInt8} {j : Nat} {u : Value} (h : (bytesV l)[j]? = some u) : ∃ hj : j < l.length, u = .int .u8 l[j].toNat := by
  obtain ⟨h1, h2⟩ := List.getElem?_eq_some_iff.1 h
  have h3 : j < l.length := by simpa [bytesV_length] using h1
  exact ⟨h3, by rw [← h2]; simp [bytesV]⟩
set_option maxRecDepth 100000 in
theorem wpList_append_bytes (w : World) {ops : Array Oper} {rest : List Oper} {o : Oper} {a : Act} {Q : Exit → Act → World → Prop} (hgd : o.guard = none) (sl x : Operand)
    (ho : o.op = .call { callee := .builtin .append, args := #[sl, x], argTypes := #[22, 22] })
    (base g : Nat) (n cap : Nat) (xs : List Value) (hs : a.eval sl = .slice (some ⟨g, 0, none⟩) n cap) (hown : w.ownsRow base 5 1 (.slice (some ⟨g, 0, none⟩) n cap) n xs) (l : List UInt8) (A : Option Addr) (c : Nat) (hx : a.eval x = .slice A l.length c) (hr : RdB w A l)
    (hn : n + l.length ≤ 1000000) (hbase : base ≤ w.heap.size)
    (h : ∀ g' cap' w', w'.ownsRow base 5 1 (.slice (some ⟨g', 0, none⟩) (n + l.length) cap') (n + l.length) (xs ++ bytesV l) → Chg (fun k => k = g) w w' → wpList Try.prog ops Q rest (a.put o.dst (.slice (some ⟨g', 0, none⟩) (n + l.length) cap')) w') : wpList Try.prog ops Q (o :: rest) a w := by
  obtain ⟨i, hi, hz, hsize, hby⟩ := info_parts Try.info5
  cases A with
  | none =>
    have hl : l = [] := by
      cases l with
      | nil => rfl
      | cons y r => obtain ⟨b, o, h0, _⟩ := hr 0 (by simp); cases h0
    subst hl
    have hcap : n ≤ cap := by
      rcases hown.2 with ⟨h1, _⟩ | ⟨g0, cap0, cur, h1, _, _, h2, _⟩
      · cases h1
      · injection h1 with _ _ h3; omega
    refine wpList_plain hgd fun K hK => ?_
    have hrun := run_append_room_src (P := Try.prog) w 22 22 o.type 5 i Try.underlying22 hi g 0 n cap (.slice none 0 c) 0 [] (Src.ofNil w Try.underlying22 c) (by simpa using hcap) (fun j hj => absurd hj (by simp)) (fun j hj => absurd hj (by simp))
    unfold Oper.wp execOp
    simp only [ho, resolve, invoke, builtin, Sem.run_bind, Sem.run_pure, Result.andThen_ok, List.map_toArray, List.map_cons, List.map_nil, hs, hx, List.length_nil, hrun]
    refine hK _ _ ?_
    have := h g cap w (by simpa [bytesV] using hown) (Chg.refl _ _)
    simpa [World.setCells] using this
  | some ad =>
    refine Go.wpList_append_own_at (P := Try.prog) w hgd sl x 22 ho base 5 i (.int .u8 0) 1 1 Try.underlying22 hi hz hsize hby rfl (by omega) _ n xs hs hown ad l.length c (bytesV l) hx (by rw [bytesV_length, Nat.mul_one]) (fun j u hu => ?_) (fun u hu => ?_) (by simp only [maxLen]; omega) (by omega) hbase (fun v' w' h1 h2 h3 h4 => ?_)
    · obtain ⟨hj, rfl⟩ := bytesV_get hu
      obtain ⟨b, o', hA, hc⟩ := hr j hj
      injection hA with hA
      subst hA
      rw [add_at]
      exact hc
    · obtain ⟨y, _, rfl⟩ := List.mem_map.1 hu
      rfl
    · rcases h1.2 with ⟨rfl, h5⟩ | ⟨g', cap', cur, rfl, _⟩
      · have := h3.1 rfl
        cases this.1
      · exact h g' cap' w' h1 ((Chg.refl _ _).grown h2 (fun k _ e => by injection e with e; exact e.symm))

/-- The cells of a row of bytes of the call's own. -/
theorem own_byte {w : World} {base g cap : Nat} {b : List UInt8} (h : w.ownsRow base 5 1 (.slice (some ⟨g, 0, none⟩) b.length cap) b.length (bytesV b)) :
    base ≤ g ∧ b.length ≤ cap ∧ RdB w (some ⟨g, 0, none⟩) b ∧ ∀ k, w.frozen? ⟨g, k, none⟩ = false := by
  have h2 := (rdB_own h).2
  rcases h.2 with ⟨h1, _⟩ | ⟨g0, cap0, cur, h1, h3, h4, h5, _⟩
  · cases h1
  · injection h1 with e1 e2 e3
    injection e1 with e1
    injection e1 with e1
    subst e1 e3
    exact ⟨h3, h5, h2, fun k => free_at h4 k⟩
theorem own_lt {w : World} {base g n cap : Nat} {xs : List Value} (h : w.ownsRow base 5 1 (.slice (some ⟨g, 0, none⟩) n cap) n xs) : base ≤ w.heap.size := by
  rcases h.2 with ⟨h1, _⟩ | ⟨g0, cap0, cur, h1, h3, h4, _⟩
  · cases h1
  · exact Nat.le_trans h3 (Nat.le_of_lt (lt_of_block h4))
theorem own_ge {w : World} {base g n cap : Nat} {xs : List Value} (h : w.ownsRow base 5 1 (.slice (some ⟨g, 0, none⟩) n cap) n xs) : base ≤ g := by
  rcases h.2 with ⟨h1, _⟩ | ⟨g0, cap0, cur, h1, h3, h4, _⟩
  · cases h1
  · injection h1 with e1
    injection e1 with e1
    injection e1 with e1
    omega
theorem rdB_one (w : World) : RdB (w.alloc (.cells #[.int .u8 0] 5)) (some ⟨w.heap.size, 0, none⟩) [0] := fun k hk => by
  obtain rfl : k = 0 := by simpa using hk
  exact ⟨_, _, rfl, (cell_at (alloc_at w _) 0).trans rfl⟩
theorem rdB_cell {w : World} {g : Nat} {b : List UInt8} (h : RdB w (some ⟨g, 0, none⟩) b) (k : Nat) (hk : k < b.length) : w.cell? ⟨g, k, none⟩ = some (.int .u8 b[k].toNat) := by
  obtain ⟨b', o', hA, hc⟩ := h k hk
  simp only [Option.some.injEq, Addr.mk.injEq, and_true] at hA
  obtain ⟨rfl, rfl⟩ := hA
  simpa using hc
theorem rdB_set {w : World} {g : Nat} {b : List UInt8} (h : RdB w (some ⟨g, 0, none⟩) b) (k : Nat) (hk : k < b.length) (x : UInt8) : RdB (w.setCell ⟨g, k, none⟩ (.int .u8 x.toNat)) (some ⟨g, 0, none⟩) (b.set k x) := fun j hj => by
  have hj' : j < b.length := by simpa using hj
  refine ⟨g, 0, rfl, ?_⟩
  rw [List.getElem_set, Nat.zero_add]
  have hc := rdB_cell h j hj'
  by_cases e : k = j
  · subst e
    rw [if_pos rfl, World.cell?_setCell_same w _ _ hc]
  · rw [if_neg e, World.cell?_setCell_other w _ _ _ (by intro e2; injection e2 with _ e2; exact e e2)]
    exact hc

set_option maxRecDepth 100000 in
set_option maxHeartbeats 3200000 in
theorem turned_any (u : Un) (w : World) (vs : List Value) (hu : Vals w u.d vs) (at_ : Int) (hat : In64 at_) (wi : UInt8) (l4 : List UInt8) (A4 : Option Addr) (c4 : Nat) (h4 : RdB w A4 l4) (hl4 : l4.length ≤ maxLen) :
    Calls Try.prog 8 #[.agg vs.toArray, .int .i64 at_, .int .u8 wi.toNat, .slice A4 l4.length c4] w (Ans w (.bool true)) := by
  unfold maxLen at hl4
  unfold In64 at hat
  have OU := Lib.hid (okUn_of hu)
  have HU := Lib.hid hu
  have H4 := Lib.hid h4; clear h4
  have hwi := wi.toNat_lt
  obtain ⟨A1, c1, A2, c2, A3, c3, rfl, q0, q1, q2, q3⟩ := Un.opn hu
  have hA1 := alloc_at w (.cells #[.string u.pkg, .slice A1 u.imports.length c1, .slice A2 u.decls.length c2, .slice A3 u.bodies.length c3] 30)
  have EU0 := Lib.hid ((cell_at hA1 0).trans rfl : _ = some (.string u.pkg))
  have EU1 := Lib.hid ((cell_at hA1 1).trans rfl : _ = some (.slice A1 u.imports.length c1))
  have EU2 := Lib.hid ((cell_at hA1 2).trans rfl : _ = some (.slice A2 u.decls.length c2))
  have EU3 := Lib.hid ((cell_at hA1 3).trans rfl : _ = some (.slice A3 u.bodies.length c3))
  have HW := Lib.hid ((Below.refl _ w).alloc (Nat.le_refl _) (.cells #[.string u.pkg, .slice A1 u.imports.length c1, .slice A2 u.decls.length c2, .slice A3 u.bodies.length c3] 30) : Below w.heap.size w (w.alloc (.cells #[.string u.pkg, .slice A1 u.imports.length c1, .slice A2 u.decls.length c2, .slice A3 u.bodies.length c3] 30)))
  clear hA1 hu q0 q1 q2 q3
  go_enter Try.func8, Try.ntmps8
  go_wp2_with fail
  refine (great_any u _ _ (HU.out.sub (Below.sub HW.out))).mono ?_
  rintro e w1 ⟨g, rfl, hg, hb1⟩
  have B1 := Lib.hid (HW.out.trans (hb1.mono HW.out.size))
  have C1 := Lib.hid hb1; clear hb1 hg
  cases g
  case true =>
    go_wp2_with fail
    refine (awake_any _).mono ?_
    rintro e wz ⟨rfl, hb⟩
    have BZ := Lib.hid (B1.out.trans (hb.mono B1.out.size)); clear hb
    go_wp2_with fail
    exact bodyPost_ret (results_tmp rfl _ _ _) rfl ⟨rfl, BZ.out⟩
  by_cases hm : 1000 < l4.length
  · have hm' : 1000 < (l4.length : Int) := by omega
    clear hm
    go_wp2_with fail
    refine (awake_any _).mono ?_
    rintro e wz ⟨rfl, hb⟩
    have BZ := Lib.hid (B1.out.trans (hb.mono B1.out.size)); clear hb
    go_wp2_with fail
    exact bodyPost_ret (results_tmp rfl _ _ _) rfl ⟨rfl, BZ.out⟩
  have hm' : ¬ 1000 < (l4.length : Int) := by omega
  have HM4 := Lib.hid hm; clear hm
  have y0 := Below.sub C1.out _ _ EU0.out
  have y1 := Below.sub C1.out _ _ EU1.out
  have y2 := Below.sub C1.out _ _ EU2.out
  have y3 := Below.sub C1.out _ _ EU3.out
  go_wp2_with fail
  refine (encode_any _ u _ (HU.out.sub (Below.sub B1.out))).mono ?_
  rintro e w2 ⟨A, c, rfl, own1, hb2⟩
  have R1 := Lib.hid (rdB_own own1).2; have N1 := Lib.hid own1; clear own1
  have B2 := Lib.hid (B1.out.trans (hb2.mono B1.out.size)); clear hb2 y0 y1 y2 y3
  by_cases he : (encodeP u).2 = 0
  case neg =>
    have n1 : ((encodeP u).2 != 0) = true := by simp [he]
    clear he
    go_wp2_with (first | (go_at_call 14; refine (num_call _ _).mono ?_; rintro e w' ⟨rfl, rfl⟩))
    refine (awake_any _).mono ?_
    rintro e wz ⟨rfl, hb⟩
    have BZ := Lib.hid (B2.out.trans (hb.mono B2.out.size)); clear hb
    go_wp2_with fail
    exact bodyPost_ret (results_tmp rfl _ _ _) rfl ⟨rfl, BZ.out⟩
  have HDE := Lib.hid (decode_encode OU.out he)
  have hbl := (encodeP_ok he).2
  have hlen : (encodeP u).1.length ≤ 262144 := by rw [hbl.2, List.length_append, le8_length]; omega
  have hpos := encodeP_pos he
  rw [he]
  clear hbl he OU
  generalize (encodeP u).1 = b at R1 N1 HDE hlen hpos
  have hp' : ¬ (b.length : Int) = 0 := by omega
  obtain ⟨gb, rfl⟩ : ∃ gb, A = some ⟨gb, 0, none⟩ := by
    rcases N1.out.2 with ⟨_, h⟩ | ⟨g, cap, cur, h, _⟩
    · omega
    · injection h with h; exact ⟨g, h⟩
  have HCB := Lib.hid (own_byte N1.out).2.1
  -- the place
  obtain ⟨k, hk⟩ : ∃ k : Nat, k = (IntKind.u64.wrap at_).toNat % b.length := ⟨_, rfl⟩
  have hkl : k < b.length := by rw [hk]; exact Nat.mod_lt _ hpos
  have ek : wrap64 ((IntKind.u64.wrap at_).tmod (b.length : Int)) = (k : Int) := by
    have hb := u64_bounds at_
    rw [Int.tmod_eq_emod_of_nonneg hb.1]
    obtain ⟨N, hN⟩ : ∃ N : Nat, IntKind.u64.wrap at_ = N := ⟨(IntKind.u64.wrap at_).toNat, by omega⟩
    rw [hN] at hk ⊢
    rw [← Int.natCast_emod, hk]
    have : N % b.length < b.length := Nat.mod_lt _ hpos
    unfold wrap64
    simp only [Int.toNat_natCast]
    omega
  clear hk
  obtain ⟨x, hx⟩ : ∃ x : UInt8, x = UInt8.ofNat (b[k].toNat ^^^ (1 + wi.toNat % 255)) := ⟨_, rfl⟩
  have hbk := b[k].toNat_lt
  have hxl : b[k].toNat ^^^ (1 + wi.toNat % 255) < 256 := Nat.xor_lt_two_pow (n := 8) (by omega) (by omega)
  have hxn : x.toNat = b[k].toNat ^^^ (1 + wi.toNat % 255) := by rw [hx, UInt8.toNat_ofNat']; omega
  have eX : bits BinOp.xor IntKind.u8 (b[k].toNat : Int) (1 + (wi.toNat : Int) % 255) = (x.toNat : Int) := by
    rw [show (1 + (wi.toNat : Int) % 255) = ((1 + wi.toNat % 255 : Nat) : Int) by omega, u8_xor_nat _ _ (by omega) (by omega), hxn]
  have hxb : b[k]? ≠ some x := by
    rw [List.getElem?_eq_getElem hkl]
    intro e
    injection e with e
    have e2 := congrArg UInt8.toNat e
    rw [hxn] at e2
    have e3 : b[k].toNat ^^^ 0 = b[k].toNat ^^^ (1 + wi.toNat % 255) := by rw [Nat.xor_zero]; exact e2
    have := xor_right e3
    omega
  have HD1 := Lib.hid (decode_turned HDE.out hkl hxb)
  have HD2 := Lib.hid (decode_cut HDE.out k hkl)
  have HD3 := Lib.hid (decode_more HDE.out (0 :: l4) (by simp))
  clear hx hbk hxl hxn hxb
  have HO0 := Lib.hid (show (w2.alloc (.cells #[] 5)).ownsRow w2.heap.size 5 1 (.slice (some ⟨w2.heap.size, 0, none⟩) 0 0) 0 [] from ⟨rfl, .inr ⟨w2.heap.size, 0, #[], rfl, Nat.le_refl _, alloc_at w2 _, Nat.le_refl _, Nat.zero_le _, rfl, rfl⟩⟩)
  have HA2 := Lib.hid (show Chg (fun _ => False) w2 (w2.alloc (.cells #[] 5)) from (Chg.refl _ _).alloc _)
  have HRb := Lib.hid (R1.out.sub (Below.sub HA2.out.below))
  have HN0 := Lib.hid (show 0 + b.length ≤ 1000000 by omega)
  have kl1 : (k : Int) < b.length := by omega
  have kl2 : k ≤ c := by have := HCB.out; omega
  have HKL := Lib.hid hkl
  go_wp2_with (first | (go_at_call 14; refine (num_call _ _).mono ?_; rintro e w' ⟨rfl, rfl⟩) | (at_builtin; go_loud (refine wpList_append_bytes _ rfl _ _ rfl w2.heap.size w2.heap.size 0 0 [] rfl HO0.out b (some ⟨gb, 0, none⟩) c rfl HRb.out HN0.out (by simp) ?_; intro gc cc w3 h1 hcg; simp only [Nat.zero_add, List.nil_append] at h1; have HOC := Lib.hid (own_byte h1); have HC3 := Lib.hid hcg; have fk := HOC.out.2.2.2 k; have ck := rdB_cell HOC.out.2.2.1 k HKL.out; clear h1 hcg)))
  have hB4 : Below w2.heap.size w2 (w3.setCell ⟨gc, k, none⟩ (.int .u8 x.toNat)) := by
    have h1 := Below.chg HA2.out.below HC3.out HA2.out.size (fun i e => by omega)
    exact Below.chg h1 ((Chg.refl (fun j => j = gc) _).setCell (p := ⟨gc, k, none⟩) (fun _ => rfl) _) h1.size (fun i e => by have := HOC.out.1; omega)
  have HB4 := Lib.hid hB4; clear hB4
  have hdc := decode_any _ (b.set k x) (some ⟨gc, 0, none⟩) cc (rdB_set HOC.out.2.2.1 k HKL.out x) (by rw [List.length_set]; exact HOC.out.2.1) (by rw [List.length_set]; unfold Reach; omega)
  rw [List.length_set] at hdc
  refine hdc.mono ?_
  intro e w5 he
  unfold DecPost at he
  rw [HD1.out] at he
  obtain ⟨rfl, hb5⟩ := he
  clear hdc fk ck
  have HB5 := Lib.hid ((HB4.out.trans (hb5.mono HB4.out.size)).alloc (HB4.out.trans (hb5.mono HB4.out.size)).size (.cells #[.string ⟨#[]⟩, .slice none 0 0, .slice none 0 0, .slice none 0 0] 30)); clear hb5
  go_wp2_with fail
  have hdc := decode_any _ (b.take k) (some ⟨gb, 0, none⟩) c ((R1.out.sub (Below.sub HB5.out)).take k) (by rw [List.length_take]; omega) (by rw [List.length_take]; unfold Reach; omega)
  rw [List.length_take, Nat.min_eq_left (Nat.le_of_lt HKL.out)] at hdc
  refine hdc.mono ?_
  intro e w6 he
  unfold DecPost at he
  rw [HD2.out] at he
  obtain ⟨rfl, hb6⟩ := he
  clear hdc
  have HB6 := Lib.hid ((HB5.out.trans (hb6.mono HB5.out.size)).alloc (HB5.out.trans (hb6.mono HB5.out.size)).size (.cells #[.string ⟨#[]⟩, .slice none 0 0, .slice none 0 0, .slice none 0 0] 30)); clear hb6
  have HB7 := Lib.hid (HB6.out.alloc HB6.out.size (.cells #[] 5))
  have HO1 := Lib.hid (show ((w6.alloc (.cells #[.string ⟨#[]⟩, .slice none 0 0, .slice none 0 0, .slice none 0 0] 30)).alloc (.cells #[] 5)).ownsRow (w6.heap.size + 1) 5 1 (.slice (some ⟨w6.heap.size + 1, 0, none⟩) 0 0) 0 [] from ⟨rfl, .inr ⟨w6.heap.size + 1, 0, #[], rfl, Nat.le_refl _, by have := alloc_at (w6.alloc (.cells #[.string ⟨#[]⟩, .slice none 0 0, .slice none 0 0, .slice none 0 0] 30)) (.cells #[] 5); simpa using this, Nat.le_refl _, Nat.zero_le _, rfl, rfl⟩⟩)
  have HRb := Lib.hid (R1.out.sub (Below.sub HB7.out))
  have HZ6 := Lib.hid (show w2.heap.size ≤ w6.heap.size + 1 by have := HB6.out.size; simpa using this)
  have HN1 := Lib.hid (show b.length + ([0] : List UInt8).length ≤ 1000000 by simp; omega)
  have HN2 := Lib.hid (show b.length + 1 + l4.length ≤ 1000000 by have := HM4.out; omega)
  go_wp2_with (first | (at_builtin; refine wpList_append_bytes _ rfl _ _ rfl (w6.heap.size + 1) (w6.heap.size + 1) 0 0 [] rfl HO1.out b (some ⟨gb, 0, none⟩) c rfl HRb.out HN0.out (by simp) ?_; intro gd cd w7 h1 hcg; simp only [Nat.zero_add, List.nil_append] at h1; have hA7 : Chg (fun _ => False) w7 (w7.alloc (.cells #[.int .u8 0] 5)) := (Chg.refl _ _).alloc _; have HOD := Lib.hid (own_grows hA7 h1); have HB8 := Lib.hid ((Below.chg HB7.out hcg HB7.out.size (fun i e => by have := HZ6.out; omega)).alloc (Below.chg HB7.out hcg HB7.out.size (fun i e => by have := HZ6.out; omega)).size (.cells #[.int .u8 0] 5)); have HR0 := Lib.hid (rdB_one w7); clear h1 hcg hA7) | (at_builtin; refine wpList_append_bytes _ rfl _ _ rfl (w6.heap.size + 1) gd b.length cd (bytesV b) rfl HOD.out [0] (some ⟨w7.heap.size, 0, none⟩) 1 rfl HR0.out HN1.out (own_lt HOD.out) ?_; intro ge ce w8 h1 hcg; have HOE := Lib.hid h1; have HB9 := Lib.hid (Below.chg HB8.out hcg HB8.out.size (fun i e => by have := HZ6.out; have := own_ge HOD.out; omega)); have HR4 := Lib.hid (H4.out.sub (Below.sub (B2.out.trans (HB9.out.mono B2.out.size)))); clear h1 hcg) | (at_builtin; refine wpList_append_bytes _ rfl _ _ rfl (w6.heap.size + 1) ge (b.length + 1) ce (bytesV b ++ bytesV [0]) rfl HOE.out l4 A4 c4 rfl HR4.out HN2.out (own_lt HOE.out) ?_; intro gf cf w9 h1 hcg; have HOF := Lib.hid h1; have HB10 := Lib.hid (Below.chg HB9.out hcg HB9.out.size (fun i e => by have := HZ6.out; have := own_ge HOE.out; omega)); clear h1 hcg))
  have hof := HOF.out
  rw [← bytesV_append, ← bytesV_append, show b ++ [0] ++ l4 = b ++ 0 :: l4 by simp, show b.length + 1 + l4.length = (b ++ 0 :: l4).length by simp; omega] at hof
  have hob := own_byte hof
  have hdc := decode_any w9 (b ++ 0 :: l4) (some ⟨gf, 0, none⟩) cf hob.2.2.1 hob.2.1 (by simp only [List.length_append, List.length_cons]; unfold Reach; have := HN2.out; omega)
  rw [show (b ++ 0 :: l4).length = b.length + 1 + l4.length by simp; omega] at hdc
  refine hdc.mono ?_
  intro e w10 he
  unfold DecPost at he
  rw [HD3.out] at he
  obtain ⟨rfl, hb10⟩ := he
  have HB11 := Lib.hid ((HB10.out.trans (hb10.mono HB10.out.size)).alloc (HB10.out.trans (hb10.mono HB10.out.size)).size (.cells #[.string ⟨#[]⟩, .slice none 0 0, .slice none 0 0, .slice none 0 0] 30))
  clear hdc hob hof hb10
  go_wp2_with (first | (go_at_call 14; refine (num_call _ _).mono ?_; rintro e w' ⟨rfl, rfl⟩))
  refine (awake_any _).mono ?_
  rintro e wz ⟨rfl, hb⟩
  have BZ := Lib.hid ((B2.out.trans (HB11.out.mono B2.out.size)).trans (hb.mono (B2.out.trans (HB11.out.mono B2.out.size)).size)); clear hb
  go_wp2_with fail
  exact bodyPost_ret (results_tmp rfl _ _ _) rfl ⟨rfl, BZ.out⟩
end Go.Proofs.Ytghnaaahkbnhlaa
