/-
  The bytes of the plain types tell them apart, whatever stands behind. The conditions: numbers are of 64 bits, texts and lists within the reach.
-/
import Derived.Test.YtghnaaahkbnhlaaEnc
namespace Go.Proofs.Ytghnaaahkbnhlaa
open Go.RowKit
set_option linter.unusedVariables false
set_option linter.unusedSimpArgs false

theorem le8_inj {a b : Int} (ha : In64 a) (hb : In64 b) (h : le8 a = le8 b) : a = b := by
  unfold In64 at ha hb
  have each : ∀ k, k < 8 → IntKind.u64.wrap a / 2 ^ (8 * k) % 256 = IntKind.u64.wrap b / 2 ^ (8 * k) % 256 := by
    intro k hk
    rw [← byteAt_toNat, ← byteAt_toNat]
    have : (le8 a)[k]? = (le8 b)[k]? := by rw [h]
    simp only [le8, List.getElem?_map, List.getElem?_range hk, Option.map_some, Option.some.injEq] at this
    rw [this]
  have e0 := each 0 (by decide); have e1 := each 1 (by decide); have e2 := each 2 (by decide); have e3 := each 3 (by decide)
  have e4 := each 4 (by decide); have e5 := each 5 (by decide); have e6 := each 6 (by decide); have e7 := each 7 (by decide)
  clear each h
  simp only [Nat.reduceMul, Int.reducePow, IntKind.wrap, IntKind.bits, IntKind.signed] at e0 e1 e2 e3 e4 e5 e6 e7
  simp at e0 e1 e2 e3 e4 e5 e6 e7
  omega
theorem le8_app {a b : Int} {x y : List UInt8} (ha : In64 a) (hb : In64 b) (h : le8 a ++ x = le8 b ++ y) : a = b ∧ x = y := by
  obtain ⟨h1, h2⟩ := List.append_inj h (by rw [le8_length, le8_length])
  exact ⟨le8_inj ha hb h1, h2⟩
theorem in64_len {n : Nat} (h : n ≤ Reach) : In64 (n : Int) := by unfold Reach at h; unfold In64; omega
theorem len_app {n m : Nat} {x y : List UInt8} (hn : n ≤ Reach) (hm : m ≤ Reach) (h : le8 n ++ x = le8 m ++ y) : n = m ∧ x = y := by
  obtain ⟨h1, h2⟩ := le8_app (in64_len hn) (in64_len hm) h
  exact ⟨by omega, h2⟩
theorem txt_app {s t : ByteArray} {x y : List UInt8} (hs : s.size ≤ Reach) (ht : t.size ≤ Reach) (h : txt s ++ x = txt t ++ y) : s = t ∧ x = y := by
  unfold txt at h
  rw [List.append_assoc, List.append_assoc] at h
  obtain ⟨h1, h2⟩ := len_app hs ht h
  obtain ⟨h3, h4⟩ := List.append_inj h2 (by unfold s2l; simpa using h1)
  refine ⟨?_, h4⟩
  unfold s2l at h3
  cases s; cases t
  simp only at h3
  rw [Array.toList_inj.1 h3]
theorem b2n_app {s t : Bool} {x y : List UInt8} (h : le8 (b2n s) ++ x = le8 (b2n t) ++ y) : s = t ∧ x = y := by
  obtain ⟨h1, h2⟩ := le8_app (by cases s <;> (unfold In64 b2n; decide)) (by cases t <;> (unfold In64 b2n; decide)) h
  exact ⟨by cases s <;> cases t <;> simp_all [b2n], h2⟩

mutual
def okTy : Ty → Prop
  | .mk x0 x1 x2 x3 x4 => In64 x0 ∧ x1.size ≤ Reach ∧ x2.size ≤ Reach ∧ (x3.length ≤ Reach ∧ okTyL x3) ∧ (x4.length ≤ Reach ∧ okTyL x4)
def okTyL : List Ty → Prop
  | [] => True
  | t :: r => okTy t ∧ okTyL r
end
mutual
theorem okTy_of {w : World} : ∀ {t : Ty} {vs : List Value}, Vals w t.d vs → okTy t
  | .mk x0 x1 x2 x3 x4, vs, h => by
    obtain ⟨A3, c3, A4, c4, _, q0, q1, q2, q3, q4⟩ := Ty.opn h
    simp only [Ty.kind, Ty.pkg, Ty.name, Ty.args, Ty.res] at q0 q1 q2 q3 q4
    exact ⟨q0, q1, q2, ⟨q3.2.2.1, okTyL_of _ _ q3.2.2.2⟩, ⟨q4.2.2.1, okTyL_of _ _ q4.2.2.2⟩⟩
theorem okTyL_of {w : World} {n : Nat} : ∀ (l : List Ty) (A : Option Addr), Elems w n (Ty.ds l) A → okTyL l
  | [], _, _ => by simp only [okTyL]
  | t :: r, A, h => by
    simp only [Ty.ds, Elems] at h
    obtain ⟨b, o, _, hc, hr⟩ := h
    obtain ⟨vs, hv, _⟩ := hc.vals
    simp only [okTyL]
    exact ⟨okTy_of hv, okTyL_of r _ hr⟩
end
mutual
theorem encTy_app' : ∀ (t u : Ty) (x y : List UInt8), okTy t → okTy u → encTy t ++ x = encTy u ++ y → t = u ∧ x = y
  | .mk x0 x1 x2 x3 x4, .mk y0 y1 y2 y3 y4, x, y, ht, hu, h => by
    simp only [okTy] at ht hu
    obtain ⟨a0, a1, a2, a3, a4⟩ := ht
    obtain ⟨b0, b1, b2, b3, b4⟩ := hu
    rw [encTy_eq, encTy_eq] at h
    simp only [Ty.kind, Ty.pkg, Ty.name, Ty.args, Ty.res, List.append_assoc] at h
    replace h := le8_app a0 b0 h
    obtain ⟨rfl, h⟩ := h
    replace h := txt_app a1 b1 h
    obtain ⟨rfl, h⟩ := h
    replace h := txt_app a2 b2 h
    obtain ⟨rfl, h⟩ := h
    replace h := len_app a3.1 b3.1 h
    obtain ⟨l3, h⟩ := h
    replace h := encTyL_app _ _ _ _ l3 a3.2 b3.2 h
    obtain ⟨rfl, h⟩ := h
    replace h := len_app a4.1 b4.1 h
    obtain ⟨l4, h⟩ := h
    replace h := encTyL_app _ _ _ _ l4 a4.2 b4.2 h
    obtain ⟨rfl, h⟩ := h
    exact ⟨rfl, h⟩
theorem encTyL_app : ∀ (l m : List Ty) (x y : List UInt8), l.length = m.length → okTyL l → okTyL m → encTyL l ++ x = encTyL m ++ y → l = m ∧ x = y
  | [], [], x, y, _, _, _, h => ⟨rfl, by simpa [encTyL] using h⟩
  | t :: r, u :: s, x, y, hl, ht, hu, h => by
    simp only [okTyL] at ht hu
    simp only [encTyL, List.append_assoc] at h
    replace h := encTy_app' t u _ _ ht.1 hu.1 h
    obtain ⟨rfl, h⟩ := h
    replace h := encTyL_app r s x y (by simpa using hl) ht.2 hu.2 h
    obtain ⟨rfl, h⟩ := h
    exact ⟨rfl, h⟩
  | [], _ :: _, _, _, hl, _, _, _ => by simp at hl
  | _ :: _, [], _, _, hl, _, _, _ => by simp at hl
end
theorem encTy_app {t u : Ty} {x y : List UInt8} (ht : okTy t) (hu : okTy u) (h : encTy t ++ x = encTy u ++ y) : t = u ∧ x = y := encTy_app' t u x y ht hu h

def okFld (t : Fld) : Prop := t.name.size ≤ Reach ∧ okTy t.type
def okFldL : List Fld → Prop
  | [] => True
  | t :: r => okFld t ∧ okFldL r
theorem okFld_of {w : World} {t : Fld} {vs : List Value} (h : Vals w t.d vs) : okFld t := by
  obtain ⟨A4, c4, A5, c5, _, q0, q1, q2, q3, q4, q5⟩ := Fld.opn h
  exact ⟨q0, okTy_of (Ty.shut q1 q2 q3 q4 q5)⟩
theorem okFldL_of {w : World} {n : Nat} : ∀ (l : List Fld) (A : Option Addr), Elems w n (Fld.ds l) A → okFldL l
  | [], _, _ => by simp only [okFldL]
  | t :: r, A, h => by
    simp only [Fld.ds, Elems] at h
    obtain ⟨b, o, _, hc, hr⟩ := h
    obtain ⟨vs, hv, _⟩ := hc.vals
    simp only [okFldL]
    exact ⟨okFld_of hv, okFldL_of r _ hr⟩
theorem encFld_app {t u : Fld} {x y : List UInt8} (ht : okFld t) (hu : okFld u) (h : encFld t ++ x = encFld u ++ y) : t = u ∧ x = y := by
  cases t with | mk x0 x1 =>
  cases u with | mk y0 y1 =>
  unfold okFld at ht hu
  simp only at ht hu
  obtain ⟨a0, a1⟩ := ht
  obtain ⟨b0, b1⟩ := hu
  rw [encFld_eq, encFld_eq] at h
  simp only [List.append_assoc] at h
  replace h := txt_app a0 b0 h
  obtain ⟨rfl, h⟩ := h
  replace h := encTy_app a1 b1 h
  obtain ⟨rfl, h⟩ := h
  exact ⟨rfl, h⟩
theorem encFldL_app : ∀ (l m : List Fld) (x y : List UInt8), l.length = m.length → okFldL l → okFldL m → encFldL l ++ x = encFldL m ++ y → l = m ∧ x = y
  | [], [], x, y, _, _, _, h => ⟨rfl, by simpa [encFldL] using h⟩
  | t :: r, u :: s, x, y, hl, ht, hu, h => by
    simp only [okFldL] at ht hu
    simp only [encFldL, List.append_assoc] at h
    replace h := encFld_app ht.1 hu.1 h
    obtain ⟨rfl, h⟩ := h
    replace h := encFldL_app r s x y (by simpa using hl) ht.2 hu.2 h
    obtain ⟨rfl, h⟩ := h
    exact ⟨rfl, h⟩
  | [], _ :: _, _, _, hl, _, _, _ => by simp at hl
  | _ :: _, [], _, _, hl, _, _, _ => by simp at hl

def okDcl (t : Dcl) : Prop := In64 t.kind ∧ t.name.size ≤ Reach ∧ t.of.size ≤ Reach ∧ In64 t.value ∧ okTy t.type ∧ (t.fields.length ≤ Reach ∧ okFldL t.fields)
def okDclL : List Dcl → Prop
  | [] => True
  | t :: r => okDcl t ∧ okDclL r
theorem okDcl_of {w : World} {t : Dcl} {vs : List Value} (h : Vals w t.d vs) : okDcl t := by
  obtain ⟨A7, c7, A8, c8, A9, c9, _, q0, q1, q2, q3, q4, q5, q6, q7, q8, q9⟩ := Dcl.opn h
  exact ⟨q0, q1, q2, q3, okTy_of (Ty.shut q4 q5 q6 q7 q8), ⟨q9.2.2.1, okFldL_of _ _ q9.2.2.2⟩⟩
theorem okDclL_of {w : World} {n : Nat} : ∀ (l : List Dcl) (A : Option Addr), Elems w n (Dcl.ds l) A → okDclL l
  | [], _, _ => by simp only [okDclL]
  | t :: r, A, h => by
    simp only [Dcl.ds, Elems] at h
    obtain ⟨b, o, _, hc, hr⟩ := h
    obtain ⟨vs, hv, _⟩ := hc.vals
    simp only [okDclL]
    exact ⟨okDcl_of hv, okDclL_of r _ hr⟩
theorem encDcl_app {t u : Dcl} {x y : List UInt8} (ht : okDcl t) (hu : okDcl u) (h : encDcl t ++ x = encDcl u ++ y) : t = u ∧ x = y := by
  cases t with | mk x0 x1 x2 x3 x4 x5 =>
  cases u with | mk y0 y1 y2 y3 y4 y5 =>
  unfold okDcl at ht hu
  simp only at ht hu
  obtain ⟨a0, a1, a2, a3, a4, a5⟩ := ht
  obtain ⟨b0, b1, b2, b3, b4, b5⟩ := hu
  rw [encDcl_eq, encDcl_eq] at h
  simp only [List.append_assoc] at h
  replace h := le8_app a0 b0 h
  obtain ⟨rfl, h⟩ := h
  replace h := txt_app a1 b1 h
  obtain ⟨rfl, h⟩ := h
  replace h := txt_app a2 b2 h
  obtain ⟨rfl, h⟩ := h
  replace h := le8_app a3 b3 h
  obtain ⟨rfl, h⟩ := h
  replace h := encTy_app a4 b4 h
  obtain ⟨rfl, h⟩ := h
  replace h := len_app a5.1 b5.1 h
  obtain ⟨l5, h⟩ := h
  replace h := encFldL_app _ _ _ _ l5 a5.2 b5.2 h
  obtain ⟨rfl, h⟩ := h
  exact ⟨rfl, h⟩
theorem encDclL_app : ∀ (l m : List Dcl) (x y : List UInt8), l.length = m.length → okDclL l → okDclL m → encDclL l ++ x = encDclL m ++ y → l = m ∧ x = y
  | [], [], x, y, _, _, _, h => ⟨rfl, by simpa [encDclL] using h⟩
  | t :: r, u :: s, x, y, hl, ht, hu, h => by
    simp only [okDclL] at ht hu
    simp only [encDclL, List.append_assoc] at h
    replace h := encDcl_app ht.1 hu.1 h
    obtain ⟨rfl, h⟩ := h
    replace h := encDclL_app r s x y (by simpa using hl) ht.2 hu.2 h
    obtain ⟨rfl, h⟩ := h
    exact ⟨rfl, h⟩
  | [], _ :: _, _, _, hl, _, _, _ => by simp at hl
  | _ :: _, [], _, _, hl, _, _, _ => by simp at hl

def okImp (t : Imp) : Prop := t.name.size ≤ Reach ∧ In64 t.hash
def okImpL : List Imp → Prop
  | [] => True
  | t :: r => okImp t ∧ okImpL r
theorem okImp_of {w : World} {t : Imp} {vs : List Value} (h : Vals w t.d vs) : okImp t := by
  obtain ⟨_, q0, q1⟩ := Imp.opn h
  exact ⟨q0, q1⟩
theorem okImpL_of {w : World} {n : Nat} : ∀ (l : List Imp) (A : Option Addr), Elems w n (Imp.ds l) A → okImpL l
  | [], _, _ => by simp only [okImpL]
  | t :: r, A, h => by
    simp only [Imp.ds, Elems] at h
    obtain ⟨b, o, _, hc, hr⟩ := h
    obtain ⟨vs, hv, _⟩ := hc.vals
    simp only [okImpL]
    exact ⟨okImp_of hv, okImpL_of r _ hr⟩
theorem encImp_app {t u : Imp} {x y : List UInt8} (ht : okImp t) (hu : okImp u) (h : encImp t ++ x = encImp u ++ y) : t = u ∧ x = y := by
  cases t with | mk x0 x1 =>
  cases u with | mk y0 y1 =>
  unfold okImp at ht hu
  simp only at ht hu
  obtain ⟨a0, a1⟩ := ht
  obtain ⟨b0, b1⟩ := hu
  rw [encImp_eq, encImp_eq] at h
  simp only [List.append_assoc] at h
  replace h := txt_app a0 b0 h
  obtain ⟨rfl, h⟩ := h
  replace h := le8_app a1 b1 h
  obtain ⟨rfl, h⟩ := h
  exact ⟨rfl, h⟩
theorem encImpL_app : ∀ (l m : List Imp) (x y : List UInt8), l.length = m.length → okImpL l → okImpL m → encImpL l ++ x = encImpL m ++ y → l = m ∧ x = y
  | [], [], x, y, _, _, _, h => ⟨rfl, by simpa [encImpL] using h⟩
  | t :: r, u :: s, x, y, hl, ht, hu, h => by
    simp only [okImpL] at ht hu
    simp only [encImpL, List.append_assoc] at h
    replace h := encImp_app ht.1 hu.1 h
    obtain ⟨rfl, h⟩ := h
    replace h := encImpL_app r s x y (by simpa using hl) ht.2 hu.2 h
    obtain ⟨rfl, h⟩ := h
    exact ⟨rfl, h⟩
  | [], _ :: _, _, _, hl, _, _, _ => by simp at hl
  | _ :: _, [], _, _, hl, _, _, _ => by simp at hl

mutual
def okEx : Ex → Prop
  | .mk x0 x1 x2 x3 => In64 x0 ∧ In64 x1 ∧ x2.size ≤ Reach ∧ (x3.length ≤ Reach ∧ okExL x3)
def okExL : List Ex → Prop
  | [] => True
  | t :: r => okEx t ∧ okExL r
end
mutual
theorem okEx_of {w : World} : ∀ {t : Ex} {vs : List Value}, Vals w t.d vs → okEx t
  | .mk x0 x1 x2 x3, vs, h => by
    obtain ⟨A3, c3, _, q0, q1, q2, q3⟩ := Ex.opn h
    simp only [Ex.op, Ex.n, Ex.name, Ex.kids] at q0 q1 q2 q3
    exact ⟨q0, q1, q2, ⟨q3.2.2.1, okExL_of _ _ q3.2.2.2⟩⟩
theorem okExL_of {w : World} {n : Nat} : ∀ (l : List Ex) (A : Option Addr), Elems w n (Ex.ds l) A → okExL l
  | [], _, _ => by simp only [okExL]
  | t :: r, A, h => by
    simp only [Ex.ds, Elems] at h
    obtain ⟨b, o, _, hc, hr⟩ := h
    obtain ⟨vs, hv, _⟩ := hc.vals
    simp only [okExL]
    exact ⟨okEx_of hv, okExL_of r _ hr⟩
end
mutual
theorem encEx_app' : ∀ (t u : Ex) (x y : List UInt8), okEx t → okEx u → encEx t ++ x = encEx u ++ y → t = u ∧ x = y
  | .mk x0 x1 x2 x3, .mk y0 y1 y2 y3, x, y, ht, hu, h => by
    simp only [okEx] at ht hu
    obtain ⟨a0, a1, a2, a3⟩ := ht
    obtain ⟨b0, b1, b2, b3⟩ := hu
    rw [encEx_eq, encEx_eq] at h
    simp only [Ex.op, Ex.n, Ex.name, Ex.kids, List.append_assoc] at h
    replace h := le8_app a0 b0 h
    obtain ⟨rfl, h⟩ := h
    replace h := le8_app a1 b1 h
    obtain ⟨rfl, h⟩ := h
    replace h := txt_app a2 b2 h
    obtain ⟨rfl, h⟩ := h
    replace h := len_app a3.1 b3.1 h
    obtain ⟨l3, h⟩ := h
    replace h := encExL_app _ _ _ _ l3 a3.2 b3.2 h
    obtain ⟨rfl, h⟩ := h
    exact ⟨rfl, h⟩
theorem encExL_app : ∀ (l m : List Ex) (x y : List UInt8), l.length = m.length → okExL l → okExL m → encExL l ++ x = encExL m ++ y → l = m ∧ x = y
  | [], [], x, y, _, _, _, h => ⟨rfl, by simpa [encExL] using h⟩
  | t :: r, u :: s, x, y, hl, ht, hu, h => by
    simp only [okExL] at ht hu
    simp only [encExL, List.append_assoc] at h
    replace h := encEx_app' t u _ _ ht.1 hu.1 h
    obtain ⟨rfl, h⟩ := h
    replace h := encExL_app r s x y (by simpa using hl) ht.2 hu.2 h
    obtain ⟨rfl, h⟩ := h
    exact ⟨rfl, h⟩
  | [], _ :: _, _, _, hl, _, _, _ => by simp at hl
  | _ :: _, [], _, _, hl, _, _, _ => by simp at hl
end
theorem encEx_app {t u : Ex} {x y : List UInt8} (ht : okEx t) (hu : okEx u) (h : encEx t ++ x = encEx u ++ y) : t = u ∧ x = y := encEx_app' t u x y ht hu h

mutual
def okSt : St → Prop
  | .mk x0 x1 x2 x3 x4 => In64 x0 ∧ In64 x1 ∧ (x2.length ≤ Reach ∧ okExL x2) ∧ (x3.length ≤ Reach ∧ okStL x3) ∧ (x4.length ≤ Reach ∧ okStL x4)
def okStL : List St → Prop
  | [] => True
  | t :: r => okSt t ∧ okStL r
end
mutual
theorem okSt_of {w : World} : ∀ {t : St} {vs : List Value}, Vals w t.d vs → okSt t
  | .mk x0 x1 x2 x3 x4, vs, h => by
    obtain ⟨A2, c2, A3, c3, A4, c4, _, q0, q1, q2, q3, q4⟩ := St.opn h
    simp only [St.op, St.n, St.exprs, St.body, St.els] at q0 q1 q2 q3 q4
    exact ⟨q0, q1, ⟨q2.2.2.1, okExL_of _ _ q2.2.2.2⟩, ⟨q3.2.2.1, okStL_of _ _ q3.2.2.2⟩, ⟨q4.2.2.1, okStL_of _ _ q4.2.2.2⟩⟩
theorem okStL_of {w : World} {n : Nat} : ∀ (l : List St) (A : Option Addr), Elems w n (St.ds l) A → okStL l
  | [], _, _ => by simp only [okStL]
  | t :: r, A, h => by
    simp only [St.ds, Elems] at h
    obtain ⟨b, o, _, hc, hr⟩ := h
    obtain ⟨vs, hv, _⟩ := hc.vals
    simp only [okStL]
    exact ⟨okSt_of hv, okStL_of r _ hr⟩
end
mutual
theorem encSt_app' : ∀ (t u : St) (x y : List UInt8), okSt t → okSt u → encSt t ++ x = encSt u ++ y → t = u ∧ x = y
  | .mk x0 x1 x2 x3 x4, .mk y0 y1 y2 y3 y4, x, y, ht, hu, h => by
    simp only [okSt] at ht hu
    obtain ⟨a0, a1, a2, a3, a4⟩ := ht
    obtain ⟨b0, b1, b2, b3, b4⟩ := hu
    rw [encSt_eq, encSt_eq] at h
    simp only [St.op, St.n, St.exprs, St.body, St.els, List.append_assoc] at h
    replace h := le8_app a0 b0 h
    obtain ⟨rfl, h⟩ := h
    replace h := le8_app a1 b1 h
    obtain ⟨rfl, h⟩ := h
    replace h := len_app a2.1 b2.1 h
    obtain ⟨l2, h⟩ := h
    replace h := encExL_app _ _ _ _ l2 a2.2 b2.2 h
    obtain ⟨rfl, h⟩ := h
    replace h := len_app a3.1 b3.1 h
    obtain ⟨l3, h⟩ := h
    replace h := encStL_app _ _ _ _ l3 a3.2 b3.2 h
    obtain ⟨rfl, h⟩ := h
    replace h := len_app a4.1 b4.1 h
    obtain ⟨l4, h⟩ := h
    replace h := encStL_app _ _ _ _ l4 a4.2 b4.2 h
    obtain ⟨rfl, h⟩ := h
    exact ⟨rfl, h⟩
theorem encStL_app : ∀ (l m : List St) (x y : List UInt8), l.length = m.length → okStL l → okStL m → encStL l ++ x = encStL m ++ y → l = m ∧ x = y
  | [], [], x, y, _, _, _, h => ⟨rfl, by simpa [encStL] using h⟩
  | t :: r, u :: s, x, y, hl, ht, hu, h => by
    simp only [okStL] at ht hu
    simp only [encStL, List.append_assoc] at h
    replace h := encSt_app' t u _ _ ht.1 hu.1 h
    obtain ⟨rfl, h⟩ := h
    replace h := encStL_app r s x y (by simpa using hl) ht.2 hu.2 h
    obtain ⟨rfl, h⟩ := h
    exact ⟨rfl, h⟩
  | [], _ :: _, _, _, hl, _, _, _ => by simp at hl
  | _ :: _, [], _, _, hl, _, _, _ => by simp at hl
end
theorem encSt_app {t u : St} {x y : List UInt8} (ht : okSt t) (hu : okSt u) (h : encSt t ++ x = encSt u ++ y) : t = u ∧ x = y := encSt_app' t u x y ht hu h

def okFn (t : Fn) : Prop := t.name.size ≤ Reach ∧ True ∧ In64 t.params ∧ In64 t.locals ∧ (t.body.length ≤ Reach ∧ okStL t.body)
def okFnL : List Fn → Prop
  | [] => True
  | t :: r => okFn t ∧ okFnL r
theorem okFn_of {w : World} {t : Fn} {vs : List Value} (h : Vals w t.d vs) : okFn t := by
  obtain ⟨A4, c4, _, q0, q2, q3, q4⟩ := Fn.opn h
  exact ⟨q0, trivial, q2, q3, ⟨q4.2.2.1, okStL_of _ _ q4.2.2.2⟩⟩
theorem okFnL_of {w : World} {n : Nat} : ∀ (l : List Fn) (A : Option Addr), Elems w n (Fn.ds l) A → okFnL l
  | [], _, _ => by simp only [okFnL]
  | t :: r, A, h => by
    simp only [Fn.ds, Elems] at h
    obtain ⟨b, o, _, hc, hr⟩ := h
    obtain ⟨vs, hv, _⟩ := hc.vals
    simp only [okFnL]
    exact ⟨okFn_of hv, okFnL_of r _ hr⟩
theorem encFn_app {t u : Fn} {x y : List UInt8} (ht : okFn t) (hu : okFn u) (h : encFn t ++ x = encFn u ++ y) : t = u ∧ x = y := by
  cases t with | mk x0 x1 x2 x3 x4 =>
  cases u with | mk y0 y1 y2 y3 y4 =>
  unfold okFn at ht hu
  simp only at ht hu
  obtain ⟨a0, a1, a2, a3, a4⟩ := ht
  obtain ⟨b0, b1, b2, b3, b4⟩ := hu
  rw [encFn_eq, encFn_eq] at h
  simp only [List.append_assoc] at h
  replace h := txt_app a0 b0 h
  obtain ⟨rfl, h⟩ := h
  replace h := b2n_app h
  obtain ⟨rfl, h⟩ := h
  replace h := le8_app a2 b2 h
  obtain ⟨rfl, h⟩ := h
  replace h := le8_app a3 b3 h
  obtain ⟨rfl, h⟩ := h
  replace h := len_app a4.1 b4.1 h
  obtain ⟨l4, h⟩ := h
  replace h := encStL_app _ _ _ _ l4 a4.2 b4.2 h
  obtain ⟨rfl, h⟩ := h
  exact ⟨rfl, h⟩
theorem encFnL_app : ∀ (l m : List Fn) (x y : List UInt8), l.length = m.length → okFnL l → okFnL m → encFnL l ++ x = encFnL m ++ y → l = m ∧ x = y
  | [], [], x, y, _, _, _, h => ⟨rfl, by simpa [encFnL] using h⟩
  | t :: r, u :: s, x, y, hl, ht, hu, h => by
    simp only [okFnL] at ht hu
    simp only [encFnL, List.append_assoc] at h
    replace h := encFn_app ht.1 hu.1 h
    obtain ⟨rfl, h⟩ := h
    replace h := encFnL_app r s x y (by simpa using hl) ht.2 hu.2 h
    obtain ⟨rfl, h⟩ := h
    exact ⟨rfl, h⟩
  | [], _ :: _, _, _, hl, _, _, _ => by simp at hl
  | _ :: _, [], _, _, hl, _, _, _ => by simp at hl

def okUn (t : Un) : Prop := t.pkg.size ≤ Reach ∧ (t.imports.length ≤ Reach ∧ okImpL t.imports) ∧ (t.decls.length ≤ Reach ∧ okDclL t.decls) ∧ (t.bodies.length ≤ Reach ∧ okFnL t.bodies)
theorem okUn_of {w : World} {t : Un} {vs : List Value} (h : Vals w t.d vs) : okUn t := by
  obtain ⟨A1, c1, A2, c2, A3, c3, _, q0, q1, q2, q3⟩ := Un.opn h
  exact ⟨q0, ⟨q1.2.2.1, okImpL_of _ _ q1.2.2.2⟩, ⟨q2.2.2.1, okDclL_of _ _ q2.2.2.2⟩, ⟨q3.2.2.1, okFnL_of _ _ q3.2.2.2⟩⟩
theorem encU_app {t u : Un} {x y : List UInt8} (ht : okUn t) (hu : okUn u) (h : encU t ++ x = encU u ++ y) : t = u ∧ x = y := by
  cases t with | mk x0 x1 x2 x3 =>
  cases u with | mk y0 y1 y2 y3 =>
  obtain ⟨a0, a1, a2, a3⟩ := ht
  obtain ⟨b0, b1, b2, b3⟩ := hu
  simp only at a0 a1 a2 a3 b0 b1 b2 b3
  unfold encU at h
  simp only [List.append_assoc] at h
  replace h := (List.append_inj h rfl).2
  replace h := txt_app a0 b0 h
  obtain ⟨rfl, h⟩ := h
  replace h := len_app a1.1 b1.1 h
  obtain ⟨l1, h⟩ := h
  replace h := encImpL_app _ _ _ _ l1 a1.2 b1.2 h
  obtain ⟨rfl, h⟩ := h
  replace h := len_app a2.1 b2.1 h
  obtain ⟨l2, h⟩ := h
  replace h := encDclL_app _ _ _ _ l2 a2.2 b2.2 h
  obtain ⟨rfl, h⟩ := h
  replace h := len_app a3.1 b3.1 h
  obtain ⟨l3, h⟩ := h
  replace h := encFnL_app _ _ _ _ l3 a3.2 b3.2 h
  obtain ⟨rfl, h⟩ := h
  exact ⟨rfl, h⟩
/-- Both have bytes: these are one where the units are one. -/
theorem encodeP_inj {t u : Un} (ht : okUn t) (hu : okUn u) (h1 : (encodeP t).2 = 0) (h2 : (encodeP u).2 = 0) (h : (encodeP t).1 = (encodeP u).1) : t = u := by
  unfold encodeP at *
  split at h1
  · simp at h1
  · split at h1
    · split at h2
      · simp at h2
      · split at h2
        · rename_i a1 a2 a3 a4
          rw [if_neg a1, if_pos a2, if_neg a3, if_pos a4] at h
          exact (encU_app ht hu h).1
        · simp at h2
    · simp at h1

end Go.Proofs.Ytghnaaahkbnhlaa
