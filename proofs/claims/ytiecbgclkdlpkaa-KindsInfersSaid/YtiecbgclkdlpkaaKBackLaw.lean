/-
  Plain laws of types that lie deep in slices: what is inferred of them and put into them. No condition.
-/
import Derived.Test.YtiecbgclkdlpkaaKAwake
import Derived.Test.YtiecbgclkdlpkaaKPut
namespace Go.Proofs.Ytiecbgclkdlpkaa
open Go.RowKit
set_option linter.unusedVariables false

def wrapN (n : Nat) (t : Ty) : Ty := match n with
  | 0 => t
  | n + 1 => .mk 6 e0 e0 [wrapN n t] []
def varT (s : ByteArray) : Ty := .mk 9 e0 s [] []
theorem place_one (s : ByteArray) : placeN [s] s = 0 := by simp [placeN]
theorem wrap_infT (s : ByteArray) (t : Ty) (m : TyM) (hm : m s = none) : ∀ n, infT [s] (wrapN n (varT s)) (wrapN n t) m = setT m s t
  | 0 => by
    rw [infT_eq, wrapN, wrapN]
    simp only [varT, Ty.kind, Ty.name, place_one, List.length_singleton, hm]
    rfl
  | n + 1 => by
    rw [infT_eq]
    have ih := wrap_infT s t m hm n
    simp only [wrapN, Ty.kind, Ty.args, Ty.res, infL]
    rw [if_neg (by simp), if_pos (by simp), ih]
theorem wrap_infer (s : ByteArray) (t : Ty) (n : Nat) : inferP [s] [wrapN n (varT s)] [wrapN n t] = if (decide (t.kind = 4) || decide (t.kind = 0)) = true then none else some [t] := by
  unfold inferP
  simp only [infL]
  rw [wrap_infT s t _ rfl n]
  have h : setT (fun _ => none) s t s = some t := by unfold setT; rw [if_pos (by simp)]
  simp only [inferGo, h]
  split <;> rfl
theorem wrap_put (s : ByteArray) (t : Ty) : ∀ n, putTy [s] [t] (wrapN n (varT s)) = wrapN n t
  | 0 => by
    rw [putTy_eq, wrapN, wrapN]
    simp only [varT, Ty.kind, Ty.name, putB, place_one, List.length_singleton]
    rw [if_pos (by simp)]; rfl
  | n + 1 => by
    rw [putTy_eq, wrapN, wrapN]
    simp only [Ty.kind, Ty.name, Ty.pkg, Ty.args, Ty.res, List.map_cons, List.map_nil, wrap_put s t n]
    rw [if_neg (by simp [putB])]
theorem wrap_sz (t : Ty) : ∀ n, (wrapN n t).sz = n + t.sz
  | 0 => by simp [wrapN]
  | n + 1 => by
    rw [Ty.sz_eq]
    have := wrap_sz t n
    simp only [wrapN, Ty.args, Ty.res, Ty.szL]
    omega
theorem sl_head {w : World} {t : Ty} {A : Option Addr} {c : Nat} (h : SL w 5 (Ty.ds [t]) 1 A c) : ∃ b o E3 x3 E4 x4, A = some ⟨b, o, none⟩ ∧ w.cell? ⟨b, o, none⟩ = some (.int .i64 t.kind) ∧ w.cell? ⟨b, o + 1, none⟩ = some (.string t.pkg) ∧ w.cell? ⟨b, o + 2, none⟩ = some (.string t.name) ∧ w.cell? ⟨b, o + 3, none⟩ = some (.slice E3 t.args.length x3) ∧ w.cell? ⟨b, o + 4, none⟩ = some (.slice E4 t.res.length x4) ∧
    Vals w t.d [.int .i64 t.kind, .string t.pkg, .string t.name, .slice E3 t.args.length x3, .slice E4 t.res.length x4] := by
  obtain ⟨b, o, hA, E3, x3, E4, x4, g0, g1, g2, g3, g4, y0, y1, y2, y3, y4⟩ := Ty.at h.2.2.2 0 (by simp)
  rw [Nat.zero_mul, Nat.add_zero] at g0 g1 g2 g3 g4
  exact ⟨b, o, E3, x3, E4, x4, hA, g0, g1, g2, g3, g4, Ty.shut y0 y1 y2 y3 y4⟩
theorem eqTy_self (t : Ty) : eqTy t t = true := (eqTy_iff t t).2 rfl
end Go.Proofs.Ytiecbgclkdlpkaa
