/-
  The reader as a function on bytes reads what the writer lays, and nothing else. The conditions: numbers are of 64 bits, texts and lists within the reach, not too deep.
-/
import Derived.Test.YtghnaaahkbnhlaaPar
import Derived.Test.YtghnaaahkbnhlaaInj
namespace Go.Proofs.Ytghnaaahkbnhlaa
open Go.RowKit
set_option linter.unusedVariables false
set_option linter.unusedSimpArgs false

theorem u64_bounds (v : Int) : 0 ≤ IntKind.u64.wrap v ∧ IntKind.u64.wrap v < 18446744073709551616 := by
  rw [Go.IntKind.wrap_u64]; omega
theorem wrap64_u64 {v : Int} (h : In64 v) : wrap64 (IntKind.u64.wrap v) = v := by
  rw [Go.IntKind.wrap_u64]; unfold In64 at h; unfold wrap64; omega
theorem u64_wrap64 {n : Nat} (h : n < 18446744073709551616) : IntKind.u64.wrap (wrap64 (n : Int)) = n := by
  rw [Go.IntKind.wrap_u64]; unfold wrap64; omega
theorem in64_wrap64 (n : Int) : In64 (wrap64 n) := by unfold In64 wrap64; omega
theorem byteAt_nat (v : Int) (N : Nat) (h : IntKind.u64.wrap v = N) (k : Nat) : (byteAt v k).toNat = N / 2 ^ (8 * k) % 256 := by
  have := byteAt_toNat v k
  rw [h] at this
  have hp : ((2 : Int) ^ (8 * k)) = ((2 ^ (8 * k) : Nat) : Int) := (Int.natCast_pow 2 (8 * k)).symm
  rw [hp] at this
  generalize 2 ^ (8 * k) = q at *
  rw [← Int.natCast_ediv] at this
  omega
theorem le8_eq (v : Int) : le8 v = [byteAt v 0, byteAt v 1, byteAt v 2, byteAt v 3, byteAt v 4, byteAt v 5, byteAt v 6, byteAt v 7] := rfl
theorem unle_le8 (v : Int) : ((unle (le8 v) : Nat) : Int) = IntKind.u64.wrap v := by
  have hu := u64_bounds v
  obtain ⟨N, hN⟩ : ∃ N : Nat, IntKind.u64.wrap v = N := ⟨(IntKind.u64.wrap v).toNat, by omega⟩
  have hb := byteAt_nat v N hN
  have h0 := hb 0; have h1 := hb 1; have h2 := hb 2; have h3 := hb 3; have h4 := hb 4; have h5 := hb 5; have h6 := hb 6; have h7 := hb 7
  rw [le8_eq, hN]
  simp only [unle]
  simp only [Nat.reduceMul, Nat.reducePow] at h0 h1 h2 h3 h4 h5 h6 h7
  rw [h0, h1, h2, h3, h4, h5, h6, h7]
  omega
theorem le8_unle : ∀ (a : List UInt8), a.length = 8 → le8 (wrap64 (unle a : Nat)) = a
  | [a0, a1, a2, a3, a4, a5, a6, a7], _ => by
    have hlt := unle_lt [a0, a1, a2, a3, a4, a5, a6, a7]
    have hw := u64_wrap64 (n := unle [a0, a1, a2, a3, a4, a5, a6, a7]) (by simpa using hlt)
    generalize hv : wrap64 (unle [a0, a1, a2, a3, a4, a5, a6, a7] : Nat) = v at *
    have hb := byteAt_nat v _ hw
    have t0 := a0.toNat_lt; have t1 := a1.toNat_lt; have t2 := a2.toNat_lt; have t3 := a3.toNat_lt
    have t4 := a4.toNat_lt; have t5 := a5.toNat_lt; have t6 := a6.toNat_lt; have t7 := a7.toNat_lt
    have h0 := hb 0; have h1 := hb 1; have h2 := hb 2; have h3 := hb 3; have h4 := hb 4; have h5 := hb 5; have h6 := hb 6; have h7 := hb 7
    rw [le8_eq]
    clear hb hv hw hlt
    simp only [Nat.reduceMul, Nat.reducePow, unle] at h0 h1 h2 h3 h4 h5 h6 h7
    have q0 : byteAt v 0 = a0 := UInt8.toNat_inj.1 (by rw [h0]; clear h0 h1 h2 h3 h4 h5 h6 h7; omega)
    have q1 : byteAt v 1 = a1 := UInt8.toNat_inj.1 (by rw [h1]; clear h0 h1 h2 h3 h4 h5 h6 h7; omega)
    have q2 : byteAt v 2 = a2 := UInt8.toNat_inj.1 (by rw [h2]; clear h0 h1 h2 h3 h4 h5 h6 h7; omega)
    have q3 : byteAt v 3 = a3 := UInt8.toNat_inj.1 (by rw [h3]; clear h0 h1 h2 h3 h4 h5 h6 h7; omega)
    have q4 : byteAt v 4 = a4 := UInt8.toNat_inj.1 (by rw [h4]; clear h0 h1 h2 h3 h4 h5 h6 h7; omega)
    have q5 : byteAt v 5 = a5 := UInt8.toNat_inj.1 (by rw [h5]; clear h0 h1 h2 h3 h4 h5 h6 h7; omega)
    have q6 : byteAt v 6 = a6 := UInt8.toNat_inj.1 (by rw [h6]; clear h0 h1 h2 h3 h4 h5 h6 h7; omega)
    have q7 : byteAt v 7 = a7 := UInt8.toNat_inj.1 (by rw [h7]; clear h0 h1 h2 h3 h4 h5 h6 h7; omega)
    rw [q0, q1, q2, q3, q4, q5, q6, q7]

/-! ### What a parser reads -/
/-- Whatever it reads is the bytes of what it answers; up to N bytes. -/
def SoundP {α : Type} (one : Pa α) (enc : α → List UInt8) (Q : α → Prop) : Prop := ∀ l x r, l.length ≤ 262144 → one l = some (x, r) → l = enc x ++ r ∧ Q x
/-- It reads the bytes of whatever is so. -/
def FullP {α : Type} (one : Pa α) (enc : α → List UInt8) (Q : α → Prop) : Prop := ∀ x r, Q x → one (enc x ++ r) = some (x, r)

theorem bindP_eq {α β : Type} {x : Option (α × List UInt8)} {f : α → List UInt8 → Option (β × List UInt8)} {y : β × List UInt8} (h : bindP x f = some y) : ∃ a l, x = some (a, l) ∧ f a l = some y := by
  cases x with
  | none => cases h
  | some p => exact ⟨p.1, p.2, rfl, h⟩

theorem numP_sound : SoundP numP le8 In64 := fun l v r _ h => by
  unfold numP at h
  split at h
  · rename_i a r' ht
    simp only [Option.some.injEq, Prod.mk.injEq] at h
    obtain ⟨rfl, rfl⟩ := h
    obtain ⟨hl, he⟩ := takeP_len (n := 8) ht
    rw [le8_unle a hl]
    exact ⟨he, in64_wrap64 _⟩
  · cases h
theorem takeP_app (a r : List UInt8) (n : Nat) (h : a.length = n) : takeP n (a ++ r) = some (a, r) := by
  unfold takeP
  rw [if_pos (by rw [List.length_append]; omega)]
  subst h
  simp
theorem numP_full : FullP numP le8 In64 := fun v r h => by
  unfold numP
  rw [show takeP 8 (le8 v ++ r) = some (le8 v, r) from takeP_app _ _ 8 (le8_length v)]
  simp only
  rw [unle_le8, wrap64_u64 h]
theorem countP_sound {l r : List UInt8} {n : Nat} (hl : l.length ≤ 262144) (h : countP l = some (n, r)) : l = le8 n ++ r ∧ n ≤ r.length := by
  unfold countP at h
  split at h
  · rename_i v r' hn
    split at h
    · rename_i hv
      simp only [Option.some.injEq, Prod.mk.injEq] at h
      obtain ⟨rfl, rfl⟩ := h
      obtain ⟨h1, h2⟩ := numP_sound _ _ _ hl hn
      refine ⟨?_, by omega⟩
      rw [show ((v.toNat : Nat) : Int) = v by omega]; exact h1
    · cases h
  · cases h
theorem countP_full {n : Nat} {r : List UInt8} (hn : n ≤ r.length) (hr : n ≤ Reach) : countP (le8 n ++ r) = some (n, r) := by
  unfold countP
  rw [numP_full _ r (in64_len hr)]
  simp only
  rw [if_pos (by omega)]
  simp
theorem textP_sound : SoundP textP txt (fun s => s.size ≤ Reach) := fun l s r hl h => by
  unfold textP at h
  split at h
  · rename_i n r' hc
    simp only [Option.some.injEq, Prod.mk.injEq] at h
    obtain ⟨rfl, rfl⟩ := h
    obtain ⟨h1, h2⟩ := countP_sound hl hc
    have e : (ByteArray.mk (r'.take n).toArray).size = n := by
      simp only [ByteArray.size, List.size_toArray, List.length_take]; omega
    refine ⟨?_, ?_⟩
    · unfold txt s2l
      rw [e, h1]
      simp
    · show (ByteArray.mk (r'.take n).toArray).size ≤ Reach
      rw [e]
      have : l.length = 8 + r'.length := by rw [h1, List.length_append, le8_length]
      unfold Reach; omega
  · cases h
theorem textP_full : FullP textP txt (fun s => s.size ≤ Reach) := fun s r h => by
  unfold textP txt
  rw [List.append_assoc, countP_full (by simp [s2l_length]) h]
  simp only
  have hl := s2l_length s
  rw [List.take_left' hl, List.drop_left' hl]
  rfl
theorem truthP_sound : SoundP truthP (fun b => le8 (b2n b)) (fun _ => True) := fun l b r hl h => by
  unfold truthP at h
  split at h
  · rename_i v r' hn
    obtain ⟨h1, _⟩ := numP_sound _ _ _ hl hn
    split at h
    · rename_i hv
      simp only [Option.some.injEq, Prod.mk.injEq] at h
      obtain ⟨rfl, rfl⟩ := h
      exact ⟨by rw [h1, hv]; rfl, trivial⟩
    · split at h
      · rename_i hv
        simp only [Option.some.injEq, Prod.mk.injEq] at h
        obtain ⟨rfl, rfl⟩ := h
        exact ⟨by rw [h1, hv]; rfl, trivial⟩
      · cases h
  · cases h
theorem truthP_full : FullP truthP (fun b => le8 (b2n b)) (fun _ => True) := fun b r _ => by
  unfold truthP
  simp only
  rw [numP_full (b2n b) r (by cases b <;> (unfold In64 b2n; decide))]
  cases b <;> rfl

theorem timesP_sound {α : Type} {one : Pa α} {enc : α → List UInt8} {Q : α → Prop} (h : SoundP one enc Q) : ∀ (n : Nat) (l : List UInt8) (xs : List α) (r : List UInt8), l.length ≤ 262144 → timesP one n l = some (xs, r) → l = xs.flatMap enc ++ r ∧ xs.length = n ∧ ∀ x ∈ xs, Q x
  | 0, l, xs, r, _, q => by
    simp only [timesP, Option.some.injEq, Prod.mk.injEq] at q
    obtain ⟨rfl, rfl⟩ := q
    simp
  | n + 1, l, xs, r, hl, q => by
    simp only [timesP] at q
    obtain ⟨x, l1, q1, q⟩ := bindP_eq q
    obtain ⟨ys, l2, q2, q⟩ := bindP_eq q
    simp only [Option.some.injEq, Prod.mk.injEq] at q
    obtain ⟨rfl, rfl⟩ := q
    obtain ⟨e1, k1⟩ := h _ _ _ hl q1
    have hl1 : l1.length ≤ 262144 := by have := congrArg List.length e1; rw [List.length_append] at this; omega
    obtain ⟨e2, k2, k3⟩ := timesP_sound h n l1 ys l2 hl1 q2
    refine ⟨by rw [e1, e2]; simp, by simp [k2], fun y hy => ?_⟩
    rcases List.mem_cons.1 hy with rfl | hy
    · exact k1
    · exact k3 y hy
theorem takesP_sound {α : Type} {one : Pa α} {enc : α → List UInt8} {Q : α → Prop} (h : SoundP one enc Q) : SoundP (takesP one) (fun xs => le8 xs.length ++ xs.flatMap enc) (fun xs => xs.length ≤ Reach ∧ ∀ x ∈ xs, Q x) := fun l xs r hl q => by
  unfold takesP at q
  obtain ⟨n, l1, q1, q⟩ := bindP_eq q
  obtain ⟨e1, k1⟩ := countP_sound hl q1
  have hll : l.length = 8 + l1.length := by rw [e1, List.length_append, le8_length]
  obtain ⟨e2, k2, k3⟩ := timesP_sound h n l1 xs r (by omega) q
  refine ⟨?_, ?_, k3⟩
  · simp only
    rw [k2, List.append_assoc, ← e2]; exact e1
  · unfold Reach; omega
theorem timesP_full {α : Type} {one : Pa α} {enc : α → List UInt8} {Q : α → Prop} (h : FullP one enc Q) : ∀ (xs : List α) (r : List UInt8), (∀ x ∈ xs, Q x) → timesP one xs.length (xs.flatMap enc ++ r) = some (xs, r)
  | [], r, _ => by simp [timesP]
  | x :: xs, r, hq => by
    simp only [List.length_cons, timesP, List.flatMap_cons, List.append_assoc]
    rw [h x _ (hq x (by simp)), bindP_some, timesP_full h xs r (fun y hy => hq y (List.mem_cons_of_mem _ hy)), bindP_some]
theorem flatMap_long {α : Type} {enc : α → List UInt8} (h1 : ∀ x, 1 ≤ (enc x).length) : ∀ xs : List α, xs.length ≤ (xs.flatMap enc).length
  | [] => by simp
  | x :: xs => by
    have := h1 x
    have := flatMap_long h1 xs
    simp only [List.flatMap_cons, List.length_cons, List.length_append]; omega
theorem takesP_full {α : Type} {one : Pa α} {enc : α → List UInt8} {Q : α → Prop} (h : FullP one enc Q) (h1 : ∀ x, 1 ≤ (enc x).length) : FullP (takesP one) (fun xs => le8 xs.length ++ xs.flatMap enc) (fun xs => xs.length ≤ Reach ∧ ∀ x ∈ xs, Q x) := fun xs r q => by
  unfold takesP
  simp only [List.append_assoc]
  have := flatMap_long h1 xs
  rw [countP_full (by rw [List.length_append]; omega) q.1, bindP_some, timesP_full h xs r q.2]

/-- One reading ahead of the others. -/
theorem sound_bind {α β : Type} {one : Pa α} {enc : α → List UInt8} {Q : α → Prop} (h : SoundP one enc Q) {l : List UInt8} (hl : l.length ≤ 262144) {f : α → List UInt8 → Option (β × List UInt8)} {y : β × List UInt8} (q : bindP (one l) f = some y) :
    ∃ a l1, l = enc a ++ l1 ∧ Q a ∧ l1.length ≤ 262144 ∧ f a l1 = some y := by
  obtain ⟨a, l1, q1, q2⟩ := bindP_eq q
  obtain ⟨e, k⟩ := h _ _ _ hl q1
  exact ⟨a, l1, e, k, by have := congrArg List.length e; rw [List.length_append] at this; omega, q2⟩
theorem encTyL_flat : ∀ l : List Ty, encTyL l = l.flatMap encTy
  | [] => by simp [encTyL]
  | t :: r => by simp [encTyL, encTyL_flat r]
theorem okTyL_iff : ∀ l : List Ty, okTyL l ↔ ∀ x ∈ l, okTy x
  | [] => by simp [okTyL]
  | t :: r => by simp [okTyL, okTyL_iff r]
theorem encFldL_flat : ∀ l : List Fld, encFldL l = l.flatMap encFld
  | [] => by simp [encFldL]
  | t :: r => by simp [encFldL, encFldL_flat r]
theorem okFldL_iff : ∀ l : List Fld, okFldL l ↔ ∀ x ∈ l, okFld x
  | [] => by simp [okFldL]
  | t :: r => by simp [okFldL, okFldL_iff r]
theorem encImpL_flat : ∀ l : List Imp, encImpL l = l.flatMap encImp
  | [] => by simp [encImpL]
  | t :: r => by simp [encImpL, encImpL_flat r]
theorem okImpL_iff : ∀ l : List Imp, okImpL l ↔ ∀ x ∈ l, okImp x
  | [] => by simp [okImpL]
  | t :: r => by simp [okImpL, okImpL_iff r]
theorem encDclL_flat : ∀ l : List Dcl, encDclL l = l.flatMap encDcl
  | [] => by simp [encDclL]
  | t :: r => by simp [encDclL, encDclL_flat r]
theorem okDclL_iff : ∀ l : List Dcl, okDclL l ↔ ∀ x ∈ l, okDcl x
  | [] => by simp [okDclL]
  | t :: r => by simp [okDclL, okDclL_iff r]
theorem encExL_flat : ∀ l : List Ex, encExL l = l.flatMap encEx
  | [] => by simp [encExL]
  | t :: r => by simp [encExL, encExL_flat r]
theorem okExL_iff : ∀ l : List Ex, okExL l ↔ ∀ x ∈ l, okEx x
  | [] => by simp [okExL]
  | t :: r => by simp [okExL, okExL_iff r]
theorem encStL_flat : ∀ l : List St, encStL l = l.flatMap encSt
  | [] => by simp [encStL]
  | t :: r => by simp [encStL, encStL_flat r]
theorem okStL_iff : ∀ l : List St, okStL l ↔ ∀ x ∈ l, okSt x
  | [] => by simp [okStL]
  | t :: r => by simp [okStL, okStL_iff r]
theorem encFnL_flat : ∀ l : List Fn, encFnL l = l.flatMap encFn
  | [] => by simp [encFnL]
  | t :: r => by simp [encFnL, encFnL_flat r]
theorem okFnL_iff : ∀ l : List Fn, okFnL l ↔ ∀ x ∈ l, okFn x
  | [] => by simp [okFnL]
  | t :: r => by simp [okFnL, okFnL_iff r]
theorem fitTyL_iff : ∀ (l : List Ty) (a : Int), fitTyL l a = true ↔ ∀ x ∈ l, fitTy x a = true
  | [], a => by simp [fitTyL]
  | t :: r, a => by simp [fitTyL, fitTyL_iff r]
theorem fitExL_iff : ∀ (l : List Ex) (a : Int), fitExL l a = true ↔ ∀ x ∈ l, fitEx x a = true
  | [], a => by simp [fitExL]
  | t :: r, a => by simp [fitExL, fitExL_iff r]
theorem fitStL_iff : ∀ (l : List St) (a : Int), fitStL l a = true ↔ ∀ x ∈ l, fitSt x a = true
  | [], a => by simp [fitStL]
  | t :: r, a => by simp [fitStL, fitStL_iff r]
theorem encTy_long (x : Ty) : 1 ≤ (encTy x).length := by rw [encTy_eq]; simp [le8_length, txt]; omega
theorem encFld_long (x : Fld) : 1 ≤ (encFld x).length := by rw [encFld_eq]; simp [le8_length, txt]; omega
theorem encImp_long (x : Imp) : 1 ≤ (encImp x).length := by rw [encImp_eq]; simp [le8_length, txt]; omega
theorem encDcl_long (x : Dcl) : 1 ≤ (encDcl x).length := by rw [encDcl_eq]; simp [le8_length, txt]; omega
theorem encEx_long (x : Ex) : 1 ≤ (encEx x).length := by rw [encEx_eq]; simp [le8_length, txt]; omega
theorem encSt_long (x : St) : 1 ≤ (encSt x).length := by rw [encSt_eq]; simp [le8_length, txt]; omega
theorem encFn_long (x : Fn) : 1 ≤ (encFn x).length := by rw [encFn_eq]; simp [le8_length, txt]; omega
theorem takesP_full' {α : Type} {one : Pa α} {enc : α → List UInt8} {Q : α → Prop} (h : FullP one enc Q) (h1 : ∀ x, 1 ≤ (enc x).length) {xs : List α} (r : List UInt8) (hr : xs.length ≤ Reach) (hq : ∀ x ∈ xs, Q x) : takesP one (le8 xs.length ++ (xs.flatMap enc ++ r)) = some (xs, r) := by
  have := takesP_full h h1 xs r ⟨hr, hq⟩
  simpa only [List.append_assoc] using this
theorem typP_sound : ∀ (d : Nat), d ≤ 101 → SoundP (typP d) encTy (fun t => okTy t ∧ fitTy t (101 - (d : Int)) = true)
  | 0, _ => fun l x r _ h => by simp [typP] at h
  | d + 1, hd => fun l x r hl h => by
    simp only [typP] at h
    obtain ⟨x0, l1, e0, k0, hl1, h⟩ := sound_bind numP_sound hl h
    obtain ⟨x1, l2, e1, k1, hl2, h⟩ := sound_bind textP_sound hl1 h
    obtain ⟨x2, l3, e2, k2, hl3, h⟩ := sound_bind textP_sound hl2 h
    obtain ⟨x3, l4, e3, k3, hl4, h⟩ := sound_bind (takesP_sound (typP_sound d (by omega))) hl3 h
    obtain ⟨x4, l5, e4, k4, hl5, h⟩ := sound_bind (takesP_sound (typP_sound d (by omega))) hl4 h
    simp only [Option.some.injEq, Prod.mk.injEq] at h
    obtain ⟨rfl, rfl⟩ := h
    subst e4
    subst e3
    subst e2
    subst e1
    subst e0
    refine ⟨?_, ?_, ?_⟩
    · rw [encTy_eq]
      simp only [Ty.kind, Ty.pkg, Ty.name, Ty.args, Ty.res, encTyL_flat, List.append_assoc]
    · simp only [okTy, okTyL_iff]
      exact ⟨k0, k1, k2, ⟨k3.1, fun x hx => (k3.2 x hx).1⟩, ⟨k4.1, fun x hx => (k4.2 x hx).1⟩⟩
    · rw [fitTy_eq]
      simp only [Bool.and_eq_true, decide_eq_true_eq, fitTyL_iff, Ty.kind, Ty.pkg, Ty.name, Ty.args, Ty.res]
      have ea : (101 - ((d + 1 : Nat) : Int)) + 1 = 101 - (d : Int) := by omega
      rw [ea]
      exact ⟨by omega, fun x hx => (k3.2 x hx).2, fun x hx => (k4.2 x hx).2⟩
theorem typP_full : ∀ (d : Nat), d ≤ 101 → FullP (typP d) encTy (fun t => okTy t ∧ fitTy t (101 - (d : Int)) = true)
  | 0, _ => fun t r ⟨_, hf⟩ => by
    rw [fitTy_eq] at hf
    simp at hf
  | d + 1, hd => fun t r ⟨ho, hf⟩ => by
    cases t with | mk x0 x1 x2 x3 x4 =>
    simp only [okTy, okTyL_iff] at ho
    obtain ⟨k0, k1, k2, k3, k4⟩ := ho
    rw [fitTy_eq] at hf
    simp only [Bool.and_eq_true, decide_eq_true_eq, fitTyL_iff, Ty.kind, Ty.pkg, Ty.name, Ty.args, Ty.res] at hf
    have ea : (101 - ((d + 1 : Nat) : Int)) + 1 = 101 - (d : Int) := by omega
    rw [ea] at hf
    obtain ⟨_, g3, g4⟩ := hf
    rw [encTy_eq]
    simp only [Ty.kind, Ty.pkg, Ty.name, Ty.args, Ty.res, encTyL_flat, List.append_assoc, typP]
    rw [numP_full _ _ k0, bindP_some]
    rw [textP_full _ _ k1, bindP_some]
    rw [textP_full _ _ k2, bindP_some]
    rw [takesP_full' (typP_full d (by omega)) encTy_long _ k3.1 (fun x hx => ⟨k3.2 x hx, g3 x hx⟩), bindP_some]
    rw [takesP_full' (typP_full d (by omega)) encTy_long _ k4.1 (fun x hx => ⟨k4.2 x hx, g4 x hx⟩), bindP_some]
theorem exprP_sound : ∀ (d : Nat), d ≤ 101 → SoundP (exprP d) encEx (fun t => okEx t ∧ fitEx t (101 - (d : Int)) = true)
  | 0, _ => fun l x r _ h => by simp [exprP] at h
  | d + 1, hd => fun l x r hl h => by
    simp only [exprP] at h
    obtain ⟨x0, l1, e0, k0, hl1, h⟩ := sound_bind numP_sound hl h
    obtain ⟨x1, l2, e1, k1, hl2, h⟩ := sound_bind numP_sound hl1 h
    obtain ⟨x2, l3, e2, k2, hl3, h⟩ := sound_bind textP_sound hl2 h
    obtain ⟨x3, l4, e3, k3, hl4, h⟩ := sound_bind (takesP_sound (exprP_sound d (by omega))) hl3 h
    simp only [Option.some.injEq, Prod.mk.injEq] at h
    obtain ⟨rfl, rfl⟩ := h
    subst e3
    subst e2
    subst e1
    subst e0
    refine ⟨?_, ?_, ?_⟩
    · rw [encEx_eq]
      simp only [Ex.op, Ex.n, Ex.name, Ex.kids, encExL_flat, List.append_assoc]
    · simp only [okEx, okExL_iff]
      exact ⟨k0, k1, k2, ⟨k3.1, fun x hx => (k3.2 x hx).1⟩⟩
    · rw [fitEx_eq]
      simp only [Bool.and_eq_true, decide_eq_true_eq, fitExL_iff, Ex.op, Ex.n, Ex.name, Ex.kids]
      have ea : (101 - ((d + 1 : Nat) : Int)) + 1 = 101 - (d : Int) := by omega
      rw [ea]
      exact ⟨by omega, fun x hx => (k3.2 x hx).2⟩
theorem exprP_full : ∀ (d : Nat), d ≤ 101 → FullP (exprP d) encEx (fun t => okEx t ∧ fitEx t (101 - (d : Int)) = true)
  | 0, _ => fun t r ⟨_, hf⟩ => by
    rw [fitEx_eq] at hf
    simp at hf
  | d + 1, hd => fun t r ⟨ho, hf⟩ => by
    cases t with | mk x0 x1 x2 x3 =>
    simp only [okEx, okExL_iff] at ho
    obtain ⟨k0, k1, k2, k3⟩ := ho
    rw [fitEx_eq] at hf
    simp only [Bool.and_eq_true, decide_eq_true_eq, fitExL_iff, Ex.op, Ex.n, Ex.name, Ex.kids] at hf
    have ea : (101 - ((d + 1 : Nat) : Int)) + 1 = 101 - (d : Int) := by omega
    rw [ea] at hf
    obtain ⟨_, g3⟩ := hf
    rw [encEx_eq]
    simp only [Ex.op, Ex.n, Ex.name, Ex.kids, encExL_flat, List.append_assoc, exprP]
    rw [numP_full _ _ k0, bindP_some]
    rw [numP_full _ _ k1, bindP_some]
    rw [textP_full _ _ k2, bindP_some]
    rw [takesP_full' (exprP_full d (by omega)) encEx_long _ k3.1 (fun x hx => ⟨k3.2 x hx, g3 x hx⟩), bindP_some]
theorem statP_sound : ∀ (d : Nat), d ≤ 101 → SoundP (statP d) encSt (fun t => okSt t ∧ fitSt t (101 - (d : Int)) = true)
  | 0, _ => fun l x r _ h => by simp [statP] at h
  | d + 1, hd => fun l x r hl h => by
    simp only [statP] at h
    obtain ⟨x0, l1, e0, k0, hl1, h⟩ := sound_bind numP_sound hl h
    obtain ⟨x1, l2, e1, k1, hl2, h⟩ := sound_bind numP_sound hl1 h
    obtain ⟨x2, l3, e2, k2, hl3, h⟩ := sound_bind (takesP_sound (exprP_sound d (by omega))) hl2 h
    obtain ⟨x3, l4, e3, k3, hl4, h⟩ := sound_bind (takesP_sound (statP_sound d (by omega))) hl3 h
    obtain ⟨x4, l5, e4, k4, hl5, h⟩ := sound_bind (takesP_sound (statP_sound d (by omega))) hl4 h
    simp only [Option.some.injEq, Prod.mk.injEq] at h
    obtain ⟨rfl, rfl⟩ := h
    subst e4
    subst e3
    subst e2
    subst e1
    subst e0
    refine ⟨?_, ?_, ?_⟩
    · rw [encSt_eq]
      simp only [St.op, St.n, St.exprs, St.body, St.els, encExL_flat, encStL_flat, List.append_assoc]
    · simp only [okSt, okExL_iff, okStL_iff]
      exact ⟨k0, k1, ⟨k2.1, fun x hx => (k2.2 x hx).1⟩, ⟨k3.1, fun x hx => (k3.2 x hx).1⟩, ⟨k4.1, fun x hx => (k4.2 x hx).1⟩⟩
    · rw [fitSt_eq]
      simp only [Bool.and_eq_true, decide_eq_true_eq, fitExL_iff, fitStL_iff, St.op, St.n, St.exprs, St.body, St.els]
      have ea : (101 - ((d + 1 : Nat) : Int)) + 1 = 101 - (d : Int) := by omega
      rw [ea]
      exact ⟨by omega, fun x hx => (k2.2 x hx).2, fun x hx => (k3.2 x hx).2, fun x hx => (k4.2 x hx).2⟩
theorem statP_full : ∀ (d : Nat), d ≤ 101 → FullP (statP d) encSt (fun t => okSt t ∧ fitSt t (101 - (d : Int)) = true)
  | 0, _ => fun t r ⟨_, hf⟩ => by
    rw [fitSt_eq] at hf
    simp at hf
  | d + 1, hd => fun t r ⟨ho, hf⟩ => by
    cases t with | mk x0 x1 x2 x3 x4 =>
    simp only [okSt, okExL_iff, okStL_iff] at ho
    obtain ⟨k0, k1, k2, k3, k4⟩ := ho
    rw [fitSt_eq] at hf
    simp only [Bool.and_eq_true, decide_eq_true_eq, fitExL_iff, fitStL_iff, St.op, St.n, St.exprs, St.body, St.els] at hf
    have ea : (101 - ((d + 1 : Nat) : Int)) + 1 = 101 - (d : Int) := by omega
    rw [ea] at hf
    obtain ⟨_, g2, g3, g4⟩ := hf
    rw [encSt_eq]
    simp only [St.op, St.n, St.exprs, St.body, St.els, encExL_flat, encStL_flat, List.append_assoc, statP]
    rw [numP_full _ _ k0, bindP_some]
    rw [numP_full _ _ k1, bindP_some]
    rw [takesP_full' (exprP_full d (by omega)) encEx_long _ k2.1 (fun x hx => ⟨k2.2 x hx, g2 x hx⟩), bindP_some]
    rw [takesP_full' (statP_full d (by omega)) encSt_long _ k3.1 (fun x hx => ⟨k3.2 x hx, g3 x hx⟩), bindP_some]
    rw [takesP_full' (statP_full d (by omega)) encSt_long _ k4.1 (fun x hx => ⟨k4.2 x hx, g4 x hx⟩), bindP_some]
theorem e101 : (101 - ((101 : Nat) : Int)) = 0 := by omega
theorem fieldP_sound : SoundP fieldP encFld (fun t => okFld t ∧ fitTy t.type 0 = true) := fun l x r hl h => by
    simp only [fieldP] at h
    obtain ⟨x0, l1, e0, k0, hl1, h⟩ := sound_bind textP_sound hl h
    obtain ⟨x1, l2, e1, k1, hl2, h⟩ := sound_bind (typP_sound 101 (by omega)) hl1 h
    simp only [Option.some.injEq, Prod.mk.injEq] at h
    obtain ⟨rfl, rfl⟩ := h
    subst e1
    subst e0
    refine ⟨?_, ?_, ?_⟩
    · rw [encFld_eq]
      simp only [List.append_assoc]
    · simp only [okFld]
      exact ⟨k0, k1.1⟩
    · have := k1.2; rwa [e101] at this
theorem fieldP_full : FullP fieldP encFld (fun t => okFld t ∧ fitTy t.type 0 = true) := fun t r hq => by
    cases t with | mk x0 x1 =>
    obtain ⟨ho, hf⟩ := hq
    simp only [okFld] at ho
    obtain ⟨k0, k1⟩ := ho
    rw [encFld_eq]
    simp only [List.append_assoc, fieldP]
    rw [textP_full _ _ k0, bindP_some]
    rw [(typP_full 101 (by omega)) _ _ ⟨k1, by rw [e101]; exact hf⟩, bindP_some]
theorem importP_sound : SoundP importP encImp (fun t => okImp t) := fun l x r hl h => by
    simp only [importP] at h
    obtain ⟨x0, l1, e0, k0, hl1, h⟩ := sound_bind textP_sound hl h
    obtain ⟨x1, l2, e1, k1, hl2, h⟩ := sound_bind numP_sound hl1 h
    simp only [Option.some.injEq, Prod.mk.injEq] at h
    obtain ⟨rfl, rfl⟩ := h
    subst e1
    subst e0
    refine ⟨?_, ?_⟩
    · rw [encImp_eq]
      simp only [List.append_assoc]
    · simp only [okImp]
      exact ⟨k0, k1⟩
theorem importP_full : FullP importP encImp (fun t => okImp t) := fun t r hq => by
    cases t with | mk x0 x1 =>
    have ho := hq
    simp only [okImp] at ho
    obtain ⟨k0, k1⟩ := ho
    rw [encImp_eq]
    simp only [List.append_assoc, importP]
    rw [textP_full _ _ k0, bindP_some]
    rw [numP_full _ _ k1, bindP_some]
theorem declP_sound : SoundP declP encDcl (fun t => okDcl t ∧ shalD t = true) := fun l x r hl h => by
    simp only [declP] at h
    obtain ⟨x0, l1, e0, k0, hl1, h⟩ := sound_bind numP_sound hl h
    obtain ⟨x1, l2, e1, k1, hl2, h⟩ := sound_bind textP_sound hl1 h
    obtain ⟨x2, l3, e2, k2, hl3, h⟩ := sound_bind textP_sound hl2 h
    obtain ⟨x3, l4, e3, k3, hl4, h⟩ := sound_bind numP_sound hl3 h
    obtain ⟨x4, l5, e4, k4, hl5, h⟩ := sound_bind (typP_sound 101 (by omega)) hl4 h
    obtain ⟨x5, l6, e5, k5, hl6, h⟩ := sound_bind (takesP_sound fieldP_sound) hl5 h
    simp only [Option.some.injEq, Prod.mk.injEq] at h
    obtain ⟨rfl, rfl⟩ := h
    subst e5
    subst e4
    subst e3
    subst e2
    subst e1
    subst e0
    refine ⟨?_, ?_, ?_⟩
    · rw [encDcl_eq]
      simp only [List.append_assoc, encFldL_flat]
    · simp only [okDcl, okFldL_iff]
      exact ⟨k0, k1, k2, k3, k4.1, ⟨k5.1, fun x hx => (k5.2 x hx).1⟩⟩
    · unfold shalD; simp only [Bool.and_eq_true, List.all_eq_true]; refine ⟨?_, fun f hf => (k5.2 f hf).2⟩; have := k4.2; rwa [e101] at this
theorem declP_full : FullP declP encDcl (fun t => okDcl t ∧ shalD t = true) := fun t r hq => by
    cases t with | mk x0 x1 x2 x3 x4 x5 =>
    obtain ⟨ho, hf⟩ := hq
    simp only [okDcl, okFldL_iff] at ho
    obtain ⟨k0, k1, k2, k3, k4, k5⟩ := ho
    unfold shalD at hf; simp only [Bool.and_eq_true, List.all_eq_true] at hf
    rw [encDcl_eq]
    simp only [List.append_assoc, declP, encFldL_flat]
    rw [numP_full _ _ k0, bindP_some]
    rw [textP_full _ _ k1, bindP_some]
    rw [textP_full _ _ k2, bindP_some]
    rw [numP_full _ _ k3, bindP_some]
    rw [(typP_full 101 (by omega)) _ _ ⟨k4, by rw [e101]; exact hf.1⟩, bindP_some]
    rw [takesP_full' fieldP_full encFld_long _ k5.1 (fun x hx => ⟨k5.2 x hx, hf.2 x hx⟩), bindP_some]
theorem functionP_sound : SoundP functionP encFn (fun t => okFn t ∧ shalF t = true) := fun l x r hl h => by
    simp only [functionP] at h
    obtain ⟨x0, l1, e0, k0, hl1, h⟩ := sound_bind textP_sound hl h
    obtain ⟨x1, l2, e1, k1, hl2, h⟩ := sound_bind truthP_sound hl1 h
    obtain ⟨x2, l3, e2, k2, hl3, h⟩ := sound_bind numP_sound hl2 h
    obtain ⟨x3, l4, e3, k3, hl4, h⟩ := sound_bind numP_sound hl3 h
    obtain ⟨x4, l5, e4, k4, hl5, h⟩ := sound_bind (takesP_sound (statP_sound 101 (by omega))) hl4 h
    simp only [Option.some.injEq, Prod.mk.injEq] at h
    obtain ⟨rfl, rfl⟩ := h
    subst e4
    subst e3
    subst e2
    subst e1
    subst e0
    refine ⟨?_, ?_, ?_⟩
    · rw [encFn_eq]
      simp only [List.append_assoc, encStL_flat]
    · simp only [okFn, okStL_iff]
      exact ⟨k0, trivial, k2, k3, ⟨k4.1, fun x hx => (k4.2 x hx).1⟩⟩
    · unfold shalF; simp only [fitStL_iff]; intro x hx; have := (k4.2 x hx).2; rwa [e101] at this
theorem functionP_full : FullP functionP encFn (fun t => okFn t ∧ shalF t = true) := fun t r hq => by
    cases t with | mk x0 x1 x2 x3 x4 =>
    obtain ⟨ho, hf⟩ := hq
    simp only [okFn, okStL_iff] at ho
    obtain ⟨k0, k1, k2, k3, k4⟩ := ho
    unfold shalF at hf; simp only [fitStL_iff] at hf
    rw [encFn_eq]
    simp only [List.append_assoc, functionP, encStL_flat]
    rw [textP_full _ _ k0, bindP_some]
    rw [truthP_full _ _ trivial, bindP_some]
    rw [numP_full _ _ k2, bindP_some]
    rw [numP_full _ _ k3, bindP_some]
    rw [takesP_full' (statP_full 101 (by omega)) encSt_long _ k4.1 (fun x hx => ⟨k4.2 x hx, by rw [e101]; exact hf x hx⟩), bindP_some]
/-- The bytes of a unit behind the mark. -/
def encB (u : Un) : List UInt8 := txt u.pkg ++ ((le8 u.imports.length ++ encImpL u.imports) ++ ((le8 u.decls.length ++ encDclL u.decls) ++ (le8 u.bodies.length ++ encFnL u.bodies)))
theorem encU_B (u : Un) : encU u = [77, 85, 49, 10] ++ encB u := rfl
theorem bodyP_sound : SoundP bodyP encB (fun u => okUn u ∧ shalU u = true) := fun l x r hl h => by
    simp only [bodyP] at h
    obtain ⟨x0, l1, e0, k0, hl1, h⟩ := sound_bind textP_sound hl h
    obtain ⟨x1, l2, e1, k1, hl2, h⟩ := sound_bind (takesP_sound importP_sound) hl1 h
    obtain ⟨x2, l3, e2, k2, hl3, h⟩ := sound_bind (takesP_sound declP_sound) hl2 h
    obtain ⟨x3, l4, e3, k3, hl4, h⟩ := sound_bind (takesP_sound functionP_sound) hl3 h
    simp only [Option.some.injEq, Prod.mk.injEq] at h
    obtain ⟨rfl, rfl⟩ := h
    subst e3
    subst e2
    subst e1
    subst e0
    refine ⟨?_, ?_, ?_⟩
    · unfold encB
      simp only [encImpL_flat, encDclL_flat, encFnL_flat, List.append_assoc]
    · simp only [okUn, okImpL_iff, okDclL_iff, okFnL_iff]
      exact ⟨k0, ⟨k1.1, k1.2⟩, ⟨k2.1, fun x hx => (k2.2 x hx).1⟩, ⟨k3.1, fun x hx => (k3.2 x hx).1⟩⟩
    · unfold shalU
      simp only [Bool.and_eq_true, List.all_eq_true]
      exact ⟨fun x hx => (k2.2 x hx).2, fun x hx => (k3.2 x hx).2⟩
theorem bodyP_full : FullP bodyP encB (fun u => okUn u ∧ shalU u = true) := fun t r ⟨ho, hf⟩ => by
    cases t with | mk x0 x1 x2 x3 =>
    simp only [okUn, okImpL_iff, okDclL_iff, okFnL_iff] at ho
    obtain ⟨k0, k1, k2, k3⟩ := ho
    unfold shalU at hf
    simp only [Bool.and_eq_true, List.all_eq_true] at hf
    unfold encB
    simp only [List.append_assoc, bodyP, encImpL_flat, encDclL_flat, encFnL_flat]
    rw [textP_full _ _ k0, bindP_some]
    rw [takesP_full' importP_full encImp_long _ k1.1 k1.2, bindP_some]
    rw [takesP_full' declP_full encDcl_long _ k2.1 (fun x hx => ⟨k2.2 x hx, hf.1 x hx⟩), bindP_some]
    rw [takesP_full' functionP_full encFn_long _ k3.1 (fun x hx => ⟨k3.2 x hx, hf.2 x hx⟩), bindP_some]
end Go.Proofs.Ytghnaaahkbnhlaa
