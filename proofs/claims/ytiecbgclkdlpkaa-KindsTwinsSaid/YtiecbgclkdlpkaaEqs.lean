/-
  Equality of the plain types as functions that answer a Bool: they tell whether two are one. No condition.
-/
import Derived.Test.YtiecbgclkdlpkaaData
namespace Go.Proofs.Ytiecbgclkdlpkaa
set_option linter.unusedSimpArgs false

theorem ba_list (a b : ByteArray) : (a.toList == b.toList) = true ↔ a = b := by
  rw [beq_iff_eq]
  constructor
  · intro h
    rw [ByteArray.toList_eq, ByteArray.toList_eq] at h
    cases a; cases b
    simp only at h
    rw [Array.toList_inj.1 h]
  · rintro rfl; rfl
theorem ba_list2 (a b : ByteArray) : a.toList = b.toList ↔ a = b := by
  rw [← ba_list, beq_iff_eq]

mutual
def eqTy : Ty → Ty → Bool
  | .mk x0 x1 x2 x3 x4, .mk y0 y1 y2 y3 y4 => ((x0 == y0) && ((x1.toList == y1.toList) && ((x2.toList == y2.toList) && (eqTyL x3 y3 && eqTyL x4 y4))))
def eqTyL : List Ty → List Ty → Bool
  | [], [] => true
  | t :: r, u :: s => eqTy t u && eqTyL r s
  | [], _ :: _ => false
  | _ :: _, [] => false
end
theorem eqTy_eq (t u : Ty) : eqTy t u = ((t.kind == u.kind) && ((t.pkg.toList == u.pkg.toList) && ((t.name.toList == u.name.toList) && (eqTyL t.args u.args && eqTyL t.res u.res)))) := by cases t; cases u; rfl
mutual
theorem eqTy_iff : ∀ t u : Ty, eqTy t u = true ↔ t = u
  | .mk x0 x1 x2 x3 x4, .mk y0 y1 y2 y3 y4 => by
    simp only [eqTy, Bool.and_eq_true, ba_list2, beq_iff_eq, Ty.mk.injEq, eqTyL_iff, eqTyL_iff]
theorem eqTyL_iff : ∀ l m : List Ty, eqTyL l m = true ↔ l = m
  | [], [] => by simp [eqTyL]
  | t :: r, u :: s => by
    simp only [eqTyL, Bool.and_eq_true, List.cons.injEq, eqTy_iff t u, eqTyL_iff r s]
  | [], _ :: _ => by simp [eqTyL]
  | _ :: _, [] => by simp [eqTyL]
end
theorem eqTyL_len : ∀ l m : List Ty, l.length ≠ m.length → eqTyL l m = false
  | [], [], h => absurd rfl h
  | t :: r, u :: s, h => by rw [eqTyL, eqTyL_len r s (by simpa using h), Bool.and_false]
  | [], _ :: _, _ => rfl
  | _ :: _, [], _ => rfl
theorem eqTyL_all : ∀ l m : List Ty, l.length = m.length → (∀ j (h : j < l.length) (h' : j < m.length), eqTy l[j] m[j] = true) → eqTyL l m = true
  | [], [], _, _ => rfl
  | t :: r, u :: s, h, q => by
    rw [eqTyL, Bool.and_eq_true]
    exact ⟨q 0 (by simp) (by simp), eqTyL_all r s (by simpa using h) (fun j h1 h2 => by have := q (j + 1) (by simpa using h1) (by simpa using h2); simpa using this)⟩
  | [], _ :: _, h, _ => by simp at h
  | _ :: _, [], h, _ => by simp at h
theorem eqTyL_not : ∀ (l m : List Ty) (k : Nat) (h : k < l.length) (h' : k < m.length), eqTy l[k] m[k] = false → eqTyL l m = false
  | t :: r, u :: s, 0, _, _, q => by rw [eqTyL, show eqTy t u = false from q, Bool.false_and]
  | t :: r, u :: s, k + 1, h, h', q => by rw [eqTyL, eqTyL_not r s k (by simpa using h) (by simpa using h') (by simpa using q), Bool.and_false]
  | [], _, k, h, _, _ => absurd h (by simp)
  | _ :: _, [], k, _, h, _ => absurd h (by simp)

def eqFld (t u : Fld) : Bool := ((t.name.toList == u.name.toList) && eqTy t.type u.type)
def eqFldL : List Fld → List Fld → Bool
  | [], [] => true
  | t :: r, u :: s => eqFld t u && eqFldL r s
  | [], _ :: _ => false
  | _ :: _, [] => false
theorem eqFld_eq (t u : Fld) : eqFld t u = ((t.name.toList == u.name.toList) && eqTy t.type u.type) := rfl
theorem eqFld_iff (t u : Fld) : eqFld t u = true ↔ t = u := by
  cases t; cases u
  simp only [eqFld, Bool.and_eq_true, ba_list2, beq_iff_eq, Fld.mk.injEq, eqTy_iff]
theorem eqFldL_iff : ∀ l m : List Fld, eqFldL l m = true ↔ l = m
  | [], [] => by simp [eqFldL]
  | t :: r, u :: s => by
    simp only [eqFldL, Bool.and_eq_true, List.cons.injEq, eqFld_iff t u, eqFldL_iff r s]
  | [], _ :: _ => by simp [eqFldL]
  | _ :: _, [] => by simp [eqFldL]
theorem eqFldL_len : ∀ l m : List Fld, l.length ≠ m.length → eqFldL l m = false
  | [], [], h => absurd rfl h
  | t :: r, u :: s, h => by rw [eqFldL, eqFldL_len r s (by simpa using h), Bool.and_false]
  | [], _ :: _, _ => rfl
  | _ :: _, [], _ => rfl
theorem eqFldL_all : ∀ l m : List Fld, l.length = m.length → (∀ j (h : j < l.length) (h' : j < m.length), eqFld l[j] m[j] = true) → eqFldL l m = true
  | [], [], _, _ => rfl
  | t :: r, u :: s, h, q => by
    rw [eqFldL, Bool.and_eq_true]
    exact ⟨q 0 (by simp) (by simp), eqFldL_all r s (by simpa using h) (fun j h1 h2 => by have := q (j + 1) (by simpa using h1) (by simpa using h2); simpa using this)⟩
  | [], _ :: _, h, _ => by simp at h
  | _ :: _, [], h, _ => by simp at h
theorem eqFldL_not : ∀ (l m : List Fld) (k : Nat) (h : k < l.length) (h' : k < m.length), eqFld l[k] m[k] = false → eqFldL l m = false
  | t :: r, u :: s, 0, _, _, q => by rw [eqFldL, show eqFld t u = false from q, Bool.false_and]
  | t :: r, u :: s, k + 1, h, h', q => by rw [eqFldL, eqFldL_not r s k (by simpa using h) (by simpa using h') (by simpa using q), Bool.and_false]
  | [], _, k, h, _, _ => absurd h (by simp)
  | _ :: _, [], k, _, h, _ => absurd h (by simp)

def eqDcl (t u : Dcl) : Bool := ((t.kind == u.kind) && ((t.name.toList == u.name.toList) && ((t.of.toList == u.of.toList) && ((t.value == u.value) && (eqTy t.type u.type && eqFldL t.fields u.fields)))))
def eqDclL : List Dcl → List Dcl → Bool
  | [], [] => true
  | t :: r, u :: s => eqDcl t u && eqDclL r s
  | [], _ :: _ => false
  | _ :: _, [] => false
theorem eqDcl_eq (t u : Dcl) : eqDcl t u = ((t.kind == u.kind) && ((t.name.toList == u.name.toList) && ((t.of.toList == u.of.toList) && ((t.value == u.value) && (eqTy t.type u.type && eqFldL t.fields u.fields))))) := rfl
theorem eqDcl_iff (t u : Dcl) : eqDcl t u = true ↔ t = u := by
  cases t; cases u
  simp only [eqDcl, Bool.and_eq_true, ba_list2, beq_iff_eq, Dcl.mk.injEq, eqTy_iff, eqFldL_iff]
theorem eqDclL_iff : ∀ l m : List Dcl, eqDclL l m = true ↔ l = m
  | [], [] => by simp [eqDclL]
  | t :: r, u :: s => by
    simp only [eqDclL, Bool.and_eq_true, List.cons.injEq, eqDcl_iff t u, eqDclL_iff r s]
  | [], _ :: _ => by simp [eqDclL]
  | _ :: _, [] => by simp [eqDclL]
theorem eqDclL_len : ∀ l m : List Dcl, l.length ≠ m.length → eqDclL l m = false
  | [], [], h => absurd rfl h
  | t :: r, u :: s, h => by rw [eqDclL, eqDclL_len r s (by simpa using h), Bool.and_false]
  | [], _ :: _, _ => rfl
  | _ :: _, [], _ => rfl
theorem eqDclL_all : ∀ l m : List Dcl, l.length = m.length → (∀ j (h : j < l.length) (h' : j < m.length), eqDcl l[j] m[j] = true) → eqDclL l m = true
  | [], [], _, _ => rfl
  | t :: r, u :: s, h, q => by
    rw [eqDclL, Bool.and_eq_true]
    exact ⟨q 0 (by simp) (by simp), eqDclL_all r s (by simpa using h) (fun j h1 h2 => by have := q (j + 1) (by simpa using h1) (by simpa using h2); simpa using this)⟩
  | [], _ :: _, h, _ => by simp at h
  | _ :: _, [], h, _ => by simp at h
theorem eqDclL_not : ∀ (l m : List Dcl) (k : Nat) (h : k < l.length) (h' : k < m.length), eqDcl l[k] m[k] = false → eqDclL l m = false
  | t :: r, u :: s, 0, _, _, q => by rw [eqDclL, show eqDcl t u = false from q, Bool.false_and]
  | t :: r, u :: s, k + 1, h, h', q => by rw [eqDclL, eqDclL_not r s k (by simpa using h) (by simpa using h') (by simpa using q), Bool.and_false]
  | [], _, k, h, _, _ => absurd h (by simp)
  | _ :: _, [], k, _, h, _ => absurd h (by simp)

def eqImp (t u : Imp) : Bool := ((t.name.toList == u.name.toList) && (t.hash == u.hash))
def eqImpL : List Imp → List Imp → Bool
  | [], [] => true
  | t :: r, u :: s => eqImp t u && eqImpL r s
  | [], _ :: _ => false
  | _ :: _, [] => false
theorem eqImp_eq (t u : Imp) : eqImp t u = ((t.name.toList == u.name.toList) && (t.hash == u.hash)) := rfl
theorem eqImp_iff (t u : Imp) : eqImp t u = true ↔ t = u := by
  cases t; cases u
  simp only [eqImp, Bool.and_eq_true, ba_list2, beq_iff_eq, Imp.mk.injEq]
theorem eqImpL_iff : ∀ l m : List Imp, eqImpL l m = true ↔ l = m
  | [], [] => by simp [eqImpL]
  | t :: r, u :: s => by
    simp only [eqImpL, Bool.and_eq_true, List.cons.injEq, eqImp_iff t u, eqImpL_iff r s]
  | [], _ :: _ => by simp [eqImpL]
  | _ :: _, [] => by simp [eqImpL]
theorem eqImpL_len : ∀ l m : List Imp, l.length ≠ m.length → eqImpL l m = false
  | [], [], h => absurd rfl h
  | t :: r, u :: s, h => by rw [eqImpL, eqImpL_len r s (by simpa using h), Bool.and_false]
  | [], _ :: _, _ => rfl
  | _ :: _, [], _ => rfl
theorem eqImpL_all : ∀ l m : List Imp, l.length = m.length → (∀ j (h : j < l.length) (h' : j < m.length), eqImp l[j] m[j] = true) → eqImpL l m = true
  | [], [], _, _ => rfl
  | t :: r, u :: s, h, q => by
    rw [eqImpL, Bool.and_eq_true]
    exact ⟨q 0 (by simp) (by simp), eqImpL_all r s (by simpa using h) (fun j h1 h2 => by have := q (j + 1) (by simpa using h1) (by simpa using h2); simpa using this)⟩
  | [], _ :: _, h, _ => by simp at h
  | _ :: _, [], h, _ => by simp at h
theorem eqImpL_not : ∀ (l m : List Imp) (k : Nat) (h : k < l.length) (h' : k < m.length), eqImp l[k] m[k] = false → eqImpL l m = false
  | t :: r, u :: s, 0, _, _, q => by rw [eqImpL, show eqImp t u = false from q, Bool.false_and]
  | t :: r, u :: s, k + 1, h, h', q => by rw [eqImpL, eqImpL_not r s k (by simpa using h) (by simpa using h') (by simpa using q), Bool.and_false]
  | [], _, k, h, _, _ => absurd h (by simp)
  | _ :: _, [], k, _, h, _ => absurd h (by simp)

mutual
def eqEx : Ex → Ex → Bool
  | .mk x0 x1 x2 x3, .mk y0 y1 y2 y3 => ((x0 == y0) && ((x1 == y1) && ((x2.toList == y2.toList) && eqExL x3 y3)))
def eqExL : List Ex → List Ex → Bool
  | [], [] => true
  | t :: r, u :: s => eqEx t u && eqExL r s
  | [], _ :: _ => false
  | _ :: _, [] => false
end
theorem eqEx_eq (t u : Ex) : eqEx t u = ((t.op == u.op) && ((t.n == u.n) && ((t.name.toList == u.name.toList) && eqExL t.kids u.kids))) := by cases t; cases u; rfl
mutual
theorem eqEx_iff : ∀ t u : Ex, eqEx t u = true ↔ t = u
  | .mk x0 x1 x2 x3, .mk y0 y1 y2 y3 => by
    simp only [eqEx, Bool.and_eq_true, ba_list2, beq_iff_eq, Ex.mk.injEq, eqExL_iff]
theorem eqExL_iff : ∀ l m : List Ex, eqExL l m = true ↔ l = m
  | [], [] => by simp [eqExL]
  | t :: r, u :: s => by
    simp only [eqExL, Bool.and_eq_true, List.cons.injEq, eqEx_iff t u, eqExL_iff r s]
  | [], _ :: _ => by simp [eqExL]
  | _ :: _, [] => by simp [eqExL]
end
theorem eqExL_len : ∀ l m : List Ex, l.length ≠ m.length → eqExL l m = false
  | [], [], h => absurd rfl h
  | t :: r, u :: s, h => by rw [eqExL, eqExL_len r s (by simpa using h), Bool.and_false]
  | [], _ :: _, _ => rfl
  | _ :: _, [], _ => rfl
theorem eqExL_all : ∀ l m : List Ex, l.length = m.length → (∀ j (h : j < l.length) (h' : j < m.length), eqEx l[j] m[j] = true) → eqExL l m = true
  | [], [], _, _ => rfl
  | t :: r, u :: s, h, q => by
    rw [eqExL, Bool.and_eq_true]
    exact ⟨q 0 (by simp) (by simp), eqExL_all r s (by simpa using h) (fun j h1 h2 => by have := q (j + 1) (by simpa using h1) (by simpa using h2); simpa using this)⟩
  | [], _ :: _, h, _ => by simp at h
  | _ :: _, [], h, _ => by simp at h
theorem eqExL_not : ∀ (l m : List Ex) (k : Nat) (h : k < l.length) (h' : k < m.length), eqEx l[k] m[k] = false → eqExL l m = false
  | t :: r, u :: s, 0, _, _, q => by rw [eqExL, show eqEx t u = false from q, Bool.false_and]
  | t :: r, u :: s, k + 1, h, h', q => by rw [eqExL, eqExL_not r s k (by simpa using h) (by simpa using h') (by simpa using q), Bool.and_false]
  | [], _, k, h, _, _ => absurd h (by simp)
  | _ :: _, [], k, _, h, _ => absurd h (by simp)

mutual
def eqSt : St → St → Bool
  | .mk x0 x1 x2 x3 x4, .mk y0 y1 y2 y3 y4 => ((x0 == y0) && ((x1 == y1) && (eqExL x2 y2 && (eqStL x3 y3 && eqStL x4 y4))))
def eqStL : List St → List St → Bool
  | [], [] => true
  | t :: r, u :: s => eqSt t u && eqStL r s
  | [], _ :: _ => false
  | _ :: _, [] => false
end
theorem eqSt_eq (t u : St) : eqSt t u = ((t.op == u.op) && ((t.n == u.n) && (eqExL t.exprs u.exprs && (eqStL t.body u.body && eqStL t.els u.els)))) := by cases t; cases u; rfl
mutual
theorem eqSt_iff : ∀ t u : St, eqSt t u = true ↔ t = u
  | .mk x0 x1 x2 x3 x4, .mk y0 y1 y2 y3 y4 => by
    simp only [eqSt, Bool.and_eq_true, ba_list2, beq_iff_eq, St.mk.injEq, eqExL_iff, eqStL_iff, eqStL_iff]
theorem eqStL_iff : ∀ l m : List St, eqStL l m = true ↔ l = m
  | [], [] => by simp [eqStL]
  | t :: r, u :: s => by
    simp only [eqStL, Bool.and_eq_true, List.cons.injEq, eqSt_iff t u, eqStL_iff r s]
  | [], _ :: _ => by simp [eqStL]
  | _ :: _, [] => by simp [eqStL]
end
theorem eqStL_len : ∀ l m : List St, l.length ≠ m.length → eqStL l m = false
  | [], [], h => absurd rfl h
  | t :: r, u :: s, h => by rw [eqStL, eqStL_len r s (by simpa using h), Bool.and_false]
  | [], _ :: _, _ => rfl
  | _ :: _, [], _ => rfl
theorem eqStL_all : ∀ l m : List St, l.length = m.length → (∀ j (h : j < l.length) (h' : j < m.length), eqSt l[j] m[j] = true) → eqStL l m = true
  | [], [], _, _ => rfl
  | t :: r, u :: s, h, q => by
    rw [eqStL, Bool.and_eq_true]
    exact ⟨q 0 (by simp) (by simp), eqStL_all r s (by simpa using h) (fun j h1 h2 => by have := q (j + 1) (by simpa using h1) (by simpa using h2); simpa using this)⟩
  | [], _ :: _, h, _ => by simp at h
  | _ :: _, [], h, _ => by simp at h
theorem eqStL_not : ∀ (l m : List St) (k : Nat) (h : k < l.length) (h' : k < m.length), eqSt l[k] m[k] = false → eqStL l m = false
  | t :: r, u :: s, 0, _, _, q => by rw [eqStL, show eqSt t u = false from q, Bool.false_and]
  | t :: r, u :: s, k + 1, h, h', q => by rw [eqStL, eqStL_not r s k (by simpa using h) (by simpa using h') (by simpa using q), Bool.and_false]
  | [], _, k, h, _, _ => absurd h (by simp)
  | _ :: _, [], k, _, h, _ => absurd h (by simp)

def eqFn (t u : Fn) : Bool := ((t.name.toList == u.name.toList) && ((t.weak == u.weak) && ((t.params == u.params) && ((t.locals == u.locals) && eqStL t.body u.body))))
def eqFnL : List Fn → List Fn → Bool
  | [], [] => true
  | t :: r, u :: s => eqFn t u && eqFnL r s
  | [], _ :: _ => false
  | _ :: _, [] => false
theorem eqFn_eq (t u : Fn) : eqFn t u = ((t.name.toList == u.name.toList) && ((t.weak == u.weak) && ((t.params == u.params) && ((t.locals == u.locals) && eqStL t.body u.body)))) := rfl
theorem eqFn_iff (t u : Fn) : eqFn t u = true ↔ t = u := by
  cases t; cases u
  simp only [eqFn, Bool.and_eq_true, ba_list2, beq_iff_eq, Fn.mk.injEq, eqStL_iff]
theorem eqFnL_iff : ∀ l m : List Fn, eqFnL l m = true ↔ l = m
  | [], [] => by simp [eqFnL]
  | t :: r, u :: s => by
    simp only [eqFnL, Bool.and_eq_true, List.cons.injEq, eqFn_iff t u, eqFnL_iff r s]
  | [], _ :: _ => by simp [eqFnL]
  | _ :: _, [] => by simp [eqFnL]
theorem eqFnL_len : ∀ l m : List Fn, l.length ≠ m.length → eqFnL l m = false
  | [], [], h => absurd rfl h
  | t :: r, u :: s, h => by rw [eqFnL, eqFnL_len r s (by simpa using h), Bool.and_false]
  | [], _ :: _, _ => rfl
  | _ :: _, [], _ => rfl
theorem eqFnL_all : ∀ l m : List Fn, l.length = m.length → (∀ j (h : j < l.length) (h' : j < m.length), eqFn l[j] m[j] = true) → eqFnL l m = true
  | [], [], _, _ => rfl
  | t :: r, u :: s, h, q => by
    rw [eqFnL, Bool.and_eq_true]
    exact ⟨q 0 (by simp) (by simp), eqFnL_all r s (by simpa using h) (fun j h1 h2 => by have := q (j + 1) (by simpa using h1) (by simpa using h2); simpa using this)⟩
  | [], _ :: _, h, _ => by simp at h
  | _ :: _, [], h, _ => by simp at h
theorem eqFnL_not : ∀ (l m : List Fn) (k : Nat) (h : k < l.length) (h' : k < m.length), eqFn l[k] m[k] = false → eqFnL l m = false
  | t :: r, u :: s, 0, _, _, q => by rw [eqFnL, show eqFn t u = false from q, Bool.false_and]
  | t :: r, u :: s, k + 1, h, h', q => by rw [eqFnL, eqFnL_not r s k (by simpa using h) (by simpa using h') (by simpa using q), Bool.and_false]
  | [], _, k, h, _, _ => absurd h (by simp)
  | _ :: _, [], k, _, h, _ => absurd h (by simp)

def eqHead (t u : Un) : Bool := ((t.pkg.toList == u.pkg.toList) && (eqImpL t.imports u.imports && eqDclL t.decls u.decls))
def eqUn (t u : Un) : Bool := (eqHead t u && eqFnL t.bodies u.bodies)
theorem eqUn_iff (t u : Un) : eqUn t u = true ↔ t = u := by
  cases t; cases u
  simp only [eqUn, eqHead, Bool.and_eq_true, ba_list2, beq_iff_eq, Un.mk.injEq, eqImpL_iff, eqDclL_iff, eqFnL_iff, and_assoc]
end Go.Proofs.Ytiecbgclkdlpkaa
