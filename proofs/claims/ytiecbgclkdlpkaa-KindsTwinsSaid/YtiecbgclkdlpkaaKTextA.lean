/-
  The walk of kinds.Text: a type as text. The conditions: the type reads; its parts' texts are not too long together.
-/
import Derived.Test.YtiecbgclkdlpkaaKEachS
import Derived.Test.YtiecbgclkdlpkaaKCopied
import Derived.Test.YtiecbgclkdlpkaaKJoin
namespace Go.Proofs.Ytiecbgclkdlpkaa
open Go.RowKit
set_option linter.unusedVariables false
set_option linter.unusedSimpArgs false
attribute [local irreducible] wpStill wpOrd wpT

def joinB (l : List ByteArray) : ByteArray := ⟨(Lib.join (l.map (·.data.toList)) (⟨#[44, 32]⟩ : ByteArray).data.toList).toArray⟩
def firstB (l : List ByteArray) : ByteArray := match l with | [] => ⟨#[91, 93]⟩ | s :: _ => (⟨#[91, 93]⟩ : ByteArray) ++ s
def backB (a : ByteArray) (l : List ByteArray) : ByteArray := match l with | [] => a | s :: _ => a ++ ((⟨#[32]⟩ : ByteArray) ++ s)
def nameB (k : Int) (p n : ByteArray) (xs ys : List ByteArray) : ByteArray :=
  if (k == 0) = true then ⟨#[110, 111, 110, 101]⟩ else if (k == 1) = true then ⟨#[105, 110, 116]⟩ else if (k == 2) = true then ⟨#[98, 111, 111, 108]⟩ else if (k == 3) = true then ⟨#[115, 116, 114, 105, 110, 103]⟩ else if (k == 4) = true then ⟨#[110, 105, 108]⟩
  else if (k == 5) = true then (⟨#[42]⟩ : ByteArray) ++ p ++ ⟨#[46]⟩ ++ n else if (k == 8) = true then p ++ ⟨#[46]⟩ ++ n else if (k == 9) = true then n
  else if (k == 6) = true then firstB xs
  else if (k == 7) = true then backB ((⟨#[102, 117, 110, 99, 40]⟩ : ByteArray) ++ joinB xs ++ ⟨#[41]⟩) ys else ⟨#[]⟩
mutual
/-- A type as text. -/
def textB : Ty → ByteArray
  | .mk k p n xs ys => nameB k p n (textBL xs) (textBL ys)
def textBL : List Ty → List ByteArray
  | [] => []
  | t :: r => textB t :: textBL r
end
theorem textBL_map : ∀ l : List Ty, textBL l = l.map textB
  | [] => by simp [textBL]
  | t :: r => by simp [textBL, textBL_map r]
theorem textB_eq (t : Ty) : textB t = nameB t.kind t.pkg t.name (t.args.map textB) (t.res.map textB) := by
  cases t; rw [textB, textBL_map, textBL_map]; rfl
mutual
/-- More than a type's text is long. -/
def longT : Ty → Nat
  | .mk _ p n xs ys => p.size + n.size + 16 + longL xs + longL ys
def longL : List Ty → Nat
  | [] => 0
  | t :: r => longT t + longL r
end
theorem longT_eq (t : Ty) : longT t = t.pkg.size + t.name.size + 16 + longL t.args + longL t.res := by cases t; rfl
theorem longL_mem : ∀ {l : List Ty} {x : Ty}, x ∈ l → longT x ≤ longL l
  | t :: r, x, h => by
    simp only [longL]
    rcases List.mem_cons.1 h with rfl | h
    · omega
    · have := longL_mem h; omega
def TextC (t : Ty) : Prop := ∀ (w : World) (vs : List Value), Vals w t.d vs → Calls Try.prog 29 #[.agg vs.toArray] w fun e w' => e = .returned (.string (textB t)) ∧ Below w.heap.size w w'
theorem enters_Text : Enters 29 := fun args w => by simp [go_sem]
theorem joinB_long (l : List ByteArray) : (joinB l).size ≤ (l.map fun s => s.size + 2).sum := by
  have h : (joinB l).size = (Lib.join (l.map (·.data.toList)) [44, 32]).length := by simp only [joinB, Lib.size_eq]
  rw [h]
  cases l with
  | nil => simp [Lib.join_nil]
  | cons x r =>
    rw [List.map_cons, Lib.join_length]
    have : ∀ r : List ByteArray, Lib.lens (r.map (·.data.toList)) + 2 * r.length = (r.map fun s => s.size + 2).sum := by
      intro r
      induction r with
      | nil => rfl
      | cons y r ih =>
        simp only [Lib.lens, List.map_cons, List.sum_cons, List.length_cons] at ih ⊢
        rw [Lib.size_eq]; omega
    have h1 := this (x :: r)
    simp only [List.map_cons, List.length_cons, List.length_map] at h1 ⊢
    simp only [List.length_nil]
    omega
theorem size_app (a b : ByteArray) : (a ++ b).size = a.size + b.size := ByteArray.size_append
theorem nameB_long (k : Int) (p n : ByteArray) (xs ys : List ByteArray) : (nameB k p n xs ys).size + 2 ≤ p.size + n.size + 16 + (xs.map fun s => s.size + 2).sum + (ys.map fun s => s.size + 2).sum := by
  have hj := joinB_long xs
  have h1 : (⟨#[42]⟩ : ByteArray).size = 1 := rfl
  have h2 : (⟨#[46]⟩ : ByteArray).size = 1 := rfl
  have h3 : (⟨#[41]⟩ : ByteArray).size = 1 := rfl
  have h4 : (⟨#[102, 117, 110, 99, 40]⟩ : ByteArray).size = 5 := rfl
  have h5 : (⟨#[32]⟩ : ByteArray).size = 1 := rfl
  have h6 : (⟨#[91, 93]⟩ : ByteArray).size = 2 := rfl
  have h7 : (⟨#[110, 111, 110, 101]⟩ : ByteArray).size = 4 := rfl
  have h8 : (⟨#[105, 110, 116]⟩ : ByteArray).size = 3 := rfl
  have h9 : (⟨#[98, 111, 111, 108]⟩ : ByteArray).size = 4 := rfl
  have ha : (⟨#[115, 116, 114, 105, 110, 103]⟩ : ByteArray).size = 6 := rfl
  have hb : (⟨#[110, 105, 108]⟩ : ByteArray).size = 3 := rfl
  have hc : (⟨#[]⟩ : ByteArray).size = 0 := rfl
  unfold nameB
  repeat' split
  all_goals try simp only [size_app]
  all_goals try omega
  · cases xs <;> simp only [firstB, size_app, List.map_cons, List.sum_cons, List.map_nil, List.sum_nil] <;> omega
  · cases ys <;> simp only [backB, size_app, List.map_cons, List.sum_cons, List.map_nil, List.sum_nil] at hj ⊢ <;> omega
theorem firstB_at (f : Ty → ByteArray) : ∀ (l : List Ty) (h : 0 < l.length), firstB (l.map f) = (⟨#[91, 93]⟩ : ByteArray) ++ f l[0]
  | _ :: _, _ => rfl
theorem backB_at (f : Ty → ByteArray) (a : ByteArray) : ∀ (l : List Ty) (h : 0 < l.length), backB a (l.map f) = a ++ ((⟨#[32]⟩ : ByteArray) ++ f l[0])
  | _ :: _, _ => rfl
mutual
theorem textB_long : ∀ t : Ty, (textB t).size + 2 ≤ longT t
  | .mk k p n xs ys => by
    have h := nameB_long k p n (textBL xs) (textBL ys)
    have h1 := textBL_long xs; have h2 := textBL_long ys
    rw [textB]; simp only [longT]; omega
theorem textBL_long : ∀ l : List Ty, ((textBL l).map fun s => s.size + 2).sum ≤ longL l
  | [] => by simp [textBL, longL]
  | t :: r => by
    have h := textB_long t; have h1 := textBL_long r
    simp only [textBL, longL, List.map_cons, List.sum_cons]; omega
end
theorem strs_sl {n : Nat} {w : World} {xs : List ByteArray} {A : Option Addr} {c : Nat} (h : DV (NewW n none w) (.lst 1 (xs.map dstr)) (.slice A xs.length c)) : SL w 1 (strs xs) xs.length A c := by
  obtain ⟨A', c', hv, q⟩ := SL.of h
  rw [List.length_map] at hv q
  injection hv with e1 _ e3
  subst e1 e3
  exact q.sub fun a v q => ((new_cell _ _ _ _ _).1 q).2
theorem join_any (w : World) (xs : List ByteArray) (A : Option Addr) (c : Nat) (n : Nat) (hn : xs.length = n) (h : SL w 1 (strs xs) n A c) (hl : (joinB xs).size ≤ 140737488355328) :
    Calls Try.prog 54 #[.slice A n c, .string ⟨#[44, 32]⟩] w fun e w' => e = .returned (.string (joinB xs)) ∧ Below w.heap.size w w' := by
  subst hn
  cases xs with
  | nil =>
    refine (strings_Join_none A c _ w).mono ?_
    rintro e w' ⟨rfl, rfl⟩
    exact ⟨rfl, Below.refl _ _⟩
  | cons x r =>
    obtain ⟨b, o, rfl, h0, _⟩ := strs_at h.2.2.2 0 (by simp)
    refine (strings_Join b o c (x :: r) ⟨#[44, 32]⟩ w (fun j y hj => ?_) (World.block_lt_of_cell? w (a := ⟨b, o + 0, none⟩) h0) ?_ h.2.1 ?_).mono ?_
    · obtain ⟨hj1, rfl⟩ := List.getElem?_eq_some_iff.1 hj
      obtain ⟨b', o', he, h1, _⟩ := strs_at h.2.2.2 j hj1
      injection he with he
      injection he with hb ho
      subst hb ho
      exact h1
    · have := h.2.2.1; unfold Reach at this; omega
    · have e : (joinB (x :: r)).size = (Lib.join ((x :: r).map (·.data.toList)) (⟨#[44, 32]⟩ : ByteArray).data.toList).length := by simp only [joinB, Lib.size_eq]
      rw [← e]; exact hl
    · rintro e w' ⟨rfl, hb⟩
      exact ⟨rfl, hb⟩
end Go.Proofs.Ytiecbgclkdlpkaa
