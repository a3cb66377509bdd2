/-
  The reader of units, as a function on bytes: a value and what is left, or nothing. No condition.
-/
import Derived.Test.YtghnaaahkbnhlaaRdA
namespace Go.Proofs.Ytghnaaahkbnhlaa
open Go.RowKit
set_option linter.unusedVariables false

abbrev Pa (α : Type) := List UInt8 → Option (α × List UInt8)
def bindP {α β : Type} (x : Option (α × List UInt8)) (f : α → List UInt8 → Option (β × List UInt8)) : Option (β × List UInt8) := match x with
  | some (a, l) => f a l
  | none => none
theorem bindP_some {α β : Type} (a : α) (l : List UInt8) (f : α → List UInt8 → Option (β × List UInt8)) : bindP (some (a, l)) f = f a l := rfl
theorem bindP_none {α β : Type} (f : α → List UInt8 → Option (β × List UInt8)) : bindP none f = none := rfl
def timesP {α : Type} (one : Pa α) : Nat → Pa (List α)
  | 0, l => some ([], l)
  | n + 1, l => bindP (one l) fun x l1 => bindP (timesP one n l1) fun xs l2 => some (x :: xs, l2)
def takesP {α : Type} (one : Pa α) : Pa (List α) := fun l => bindP (countP l) fun n l1 => timesP one n l1
def typP : Nat → Pa Ty
  | 0, _ => none
  | d + 1, l => bindP (numP l) fun k l1 => bindP (textP l1) fun p l2 => bindP (textP l2) fun n l3 => bindP (takesP (typP d) l3) fun xs l4 => bindP (takesP (typP d) l4) fun ys l5 => some (.mk k p n xs ys, l5)
def fieldP : Pa Fld := fun l => bindP (textP l) fun n l1 => bindP (typP 101 l1) fun t l2 => some (⟨n, t⟩, l2)
def importP : Pa Imp := fun l => bindP (textP l) fun n l1 => bindP (numP l1) fun h l2 => some (⟨n, h⟩, l2)
def declP : Pa Dcl := fun l => bindP (numP l) fun k l1 => bindP (textP l1) fun n l2 => bindP (textP l2) fun o l3 => bindP (numP l3) fun v l4 => bindP (typP 101 l4) fun t l5 => bindP (takesP fieldP l5) fun fs l6 => some (⟨k, n, o, v, t, fs⟩, l6)
def exprP : Nat → Pa Ex
  | 0, _ => none
  | d + 1, l => bindP (numP l) fun o l1 => bindP (numP l1) fun n l2 => bindP (textP l2) fun s l3 => bindP (takesP (exprP d) l3) fun ks l4 => some (.mk o n s ks, l4)
def statP : Nat → Pa St
  | 0, _ => none
  | d + 1, l => bindP (numP l) fun o l1 => bindP (numP l1) fun n l2 => bindP (takesP (exprP d) l2) fun es l3 => bindP (takesP (statP d) l3) fun b l4 => bindP (takesP (statP d) l4) fun e l5 => some (.mk o n es b e, l5)
def functionP : Pa Fn := fun l => bindP (textP l) fun n l1 => bindP (truthP l1) fun w l2 => bindP (numP l2) fun p l3 => bindP (numP l3) fun c l4 => bindP (takesP (statP 101) l4) fun b l5 => some (⟨n, w, p, c, b⟩, l5)
/-- What stands between the mark and the sum. -/
def bodyP : Pa Un := fun l => bindP (textP l) fun p l1 => bindP (takesP importP l1) fun is l2 => bindP (takesP declP l2) fun ds l3 => bindP (takesP functionP l3) fun fs l4 => some (⟨p, is, ds, fs⟩, l4)
/-- What Decode reads. -/
def decodeP (b : List UInt8) : Option Un :=
  if b.length < 12 ∨ 262144 < b.length then none
  else if b.take 4 ≠ [77, 85, 49, 10] then none
  else if wrap64 (unle (b.drop (b.length - 8))) ≠ fnv (b.take (b.length - 8)) then none
  else match bodyP ((b.take (b.length - 8)).drop 4) with
    | some (u, []) => some u
    | _ => none

/-- Some have been read, others are to come. -/
theorem timesP_more {α : Type} (one : Pa α) : ∀ (n : Nat) (l l1 : List UInt8) (x : α), one l = some (x, l1) → timesP one (n + 1) l = bindP (timesP one n l1) fun ys l2 => some (x :: ys, l2)
  | n, l, l1, x, h => by simp only [timesP, h, bindP_some]
/-- m are to come; xs have been read. -/
def More {α : Type} (one : Pa α) (tot : Option (List α × List UInt8)) (m : Nat) (xs : List α) (l : List UInt8) : Prop := tot = bindP (timesP one m l) fun ys l2 => some (xs ++ ys, l2)
theorem More.start {α : Type} (one : Pa α) (n : Nat) (l : List UInt8) : More one (timesP one n l) n [] l := by
  unfold More
  cases timesP one n l with
  | none => rfl
  | some x => rfl
theorem More.next {α : Type} {one : Pa α} {tot : Option (List α × List UInt8)} {m : Nat} {xs : List α} {l l1 : List UInt8} {x : α} (h : More one tot (m + 1) xs l) (q : one l = some (x, l1)) : More one tot m (xs ++ [x]) l1 := by
  unfold More at *
  rw [h, timesP_more one m l l1 x q]
  cases timesP one m l1 with
  | none => rfl
  | some y => simp [bindP]
theorem More.fail {α : Type} {one : Pa α} {tot : Option (List α × List UInt8)} {m : Nat} {xs : List α} {l : List UInt8} (h : More one tot (m + 1) xs l) (q : one l = none) : tot = none := by
  unfold More at h
  rw [h]
  simp only [timesP, q, bindP_none]
theorem More.done {α : Type} {one : Pa α} {tot : Option (List α × List UInt8)} {xs : List α} {l : List UInt8} (h : More one tot 0 xs l) : tot = some (xs, l) := by
  unfold More at h
  rw [h]
  simp [timesP, bindP]
end Go.Proofs.Ytghnaaahkbnhlaa
