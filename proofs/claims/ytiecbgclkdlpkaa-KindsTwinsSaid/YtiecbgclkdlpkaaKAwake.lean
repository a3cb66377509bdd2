/-
  The walk of the statements' awake: the document's example. No condition.
-/
import Derived.Test.YtiecbgclkdlpkaaKInfer
import Derived.Test.YtiecbgclkdlpkaaKText
namespace Go.Proofs.Ytiecbgclkdlpkaa
open Go.RowKit
set_option linter.unusedVariables false
set_option linter.unusedSimpArgs false
attribute [local irreducible] wpStill wpOrd wpT

theorem SL.nil (w : World) (sz : Nat) : SL w sz [] 0 none 0 := ⟨rfl, Nat.le_refl _, Nat.zero_le _, by simp only [Elems]⟩
theorem sl_one {w : World} {b : Nat} {vs : List Value} {t : Ty} {T : TypeId} {fr : Nat × Nat} (hb : w.heap[b]? = some (.cells vs.toArray T fr)) (hv : Vals w t.d vs) : SL w 5 (Ty.ds [t]) 1 (some ⟨b, 0, none⟩) 1 := by
  refine ⟨rfl, Nat.le_refl _, by decide, Elems.mk fun k hk => ?_⟩
  have hk0 : k = 0 := by simp [Ty.ds] at hk; omega
  subst hk0
  rw [Nat.zero_mul, Nat.zero_add]
  refine Vals.cells (show Vals w t.d vs from hv) fun i v hi => ?_
  rw [cell_at hb]; simpa using hi
theorem sl_two {w : World} {b : Nat} {vs us : List Value} {t u : Ty} {T : TypeId} {fr : Nat × Nat} (hb : w.heap[b]? = some (.cells (vs ++ us).toArray T fr)) (h5 : vs.length = 5) (hv : Vals w t.d vs) (hu : Vals w u.d us) : SL w 5 (Ty.ds [t, u]) 2 (some ⟨b, 0, none⟩) 2 := by
  refine ⟨rfl, Nat.le_refl _, by decide, Elems.mk fun k hk => ?_⟩
  have hk0 : k = 0 ∨ k = 1 := by simp [Ty.ds] at hk; omega
  rcases hk0 with rfl | rfl
  · rw [Nat.zero_mul, Nat.zero_add]
    refine Vals.cells (show Vals w t.d vs from hv) fun i v hi => ?_
    rw [cell_at hb]
    have := (List.getElem?_eq_some_iff.1 hi).1
    rw [Nat.zero_add, List.getElem?_toArray, List.getElem?_append_left (by omega)]
    exact hi
  · rw [Nat.one_mul, Nat.zero_add]
    refine Vals.cells (show Vals w u.d us from hu) fun i v hi => ?_
    rw [cell_at hb, List.getElem?_toArray, List.getElem?_append_right (by omega), h5, Nat.add_sub_cancel_left]
    exact hi
theorem strs_one {w : World} {b : Nat} {s : ByteArray} {T : TypeId} {fr : Nat × Nat} (hb : w.heap[b]? = some (.cells #[.string s] T fr)) (hs : s.size ≤ Reach) : SL w 1 (strs [s]) 1 (some ⟨b, 0, none⟩) 1 := by
  refine ⟨rfl, Nat.le_refl _, by decide, Elems.mk fun k hk => ?_⟩
  have hk0 : k = 0 := by simp [strs] at hk; omega
  subst hk0
  rw [Nat.zero_mul, Nat.zero_add]
  simp only [strs, List.map_cons, List.getElem_cons_zero, Cells, DV, and_true]
  exact ⟨_, (cell_at hb 0).trans rfl, rfl, hs⟩
/-- One block behind the other. -/
def allocs (w : World) : List Obj → World
  | [] => w
  | o :: r => allocs (w.alloc o) r
theorem allocs_old : ∀ (os : List Obj) (w : World) {k : Nat} {x : Obj}, w.heap[k]? = some x → (allocs w os).heap[k]? = some x
  | [], _, _, _, h => h
  | o :: r, w, _, _, h => allocs_old r _ (alloc_old h o)
theorem allocs_at : ∀ (os : List Obj) (w : World) (i : Nat) (h : i < os.length), (allocs w os).heap[w.heap.size + i]? = some os[i]
  | o :: r, w, 0, _ => allocs_old r _ (alloc_at w o)
  | o :: r, w, i + 1, h => by
    have := allocs_at r (w.alloc o) i (by simpa using h)
    rw [World.size_alloc] at this
    rw [show w.heap.size + (i + 1) = w.heap.size + 1 + i by omega]
    exact this
def e0 : ByteArray := ⟨#[]⟩
def tyI : Ty := .mk 1 e0 e0 [] []
def tyB : Ty := .mk 2 e0 e0 [] []
def tyS : Ty := .mk 3 e0 e0 [] []
def tySS : Ty := .mk 6 e0 e0 [tyS] []
def tyF : Ty := .mk 7 e0 e0 [tyI, tySS] [tyB]
def tyV : Ty := .mk 9 e0 ⟨#[84]⟩ [] []
def tySV : Ty := .mk 6 e0 e0 [tyV] []
def tySI : Ty := .mk 6 e0 e0 [tyI] []
theorem flat_ty (w : World) (k : Int) (n : ByteArray) (hk : In64 k) (hn : n.size ≤ Reach) : Vals w (Ty.mk k e0 n [] []).d [.int .i64 k, .string ⟨#[]⟩, .string n, .slice none 0 0, .slice none 0 0] :=
  Ty.shut (t := .mk k e0 n [] []) hk (Nat.zero_le _) hn (SL.nil w _) (SL.nil w _)
theorem arg_ty (w : World) (k : Int) (l : List Ty) (A : Option Addr) (c : Nat) (hk : In64 k) (hl : SL w 5 (Ty.ds l) l.length A c) : Vals w (Ty.mk k e0 e0 l []).d [.int .i64 k, .string ⟨#[]⟩, .string ⟨#[]⟩, .slice A l.length c, .slice none 0 0] :=
  Ty.shut (t := .mk k e0 e0 l []) hk (Nat.zero_le _) (Nat.zero_le _) hl (SL.nil w _)
theorem infer_a : inferP [⟨#[84]⟩] [tySV] [tySI] = some [tyI] := by kernel_rfl
theorem text_a : textB tyF = ⟨#[102, 117, 110, 99, 40, 105, 110, 116, 44, 32, 91, 93, 115, 116, 114, 105, 110, 103, 41, 32, 98, 111, 111, 108]⟩ := by kernel_rfl

def objs (n : Nat) : List Obj := [.cells #[.int .i64 3, .string ⟨#[]⟩, .string ⟨#[]⟩, .slice none 0 0, .slice none 0 0] 26, .cells #[.int .i64 1, .string ⟨#[]⟩, .string ⟨#[]⟩, .slice none 0 0, .slice none 0 0, .int .i64 6, .string ⟨#[]⟩, .string ⟨#[]⟩, .slice (some ⟨n, 0, none⟩) 1 1, .slice none 0 0] 26, .cells #[.int .i64 2, .string ⟨#[]⟩, .string ⟨#[]⟩, .slice none 0 0, .slice none 0 0] 26, .cells #[.int .i64 7, .string ⟨#[]⟩, .string ⟨#[]⟩, .slice (some ⟨n + 1, 0, none⟩) 2 2, .slice (some ⟨n + 1 + 1, 0, none⟩) 1 1] 26, .cells #[.string ⟨#[84]⟩] 9, .cells #[.int .i64 9, .string ⟨#[]⟩, .string ⟨#[84]⟩, .slice none 0 0, .slice none 0 0] 26, .cells #[.int .i64 6, .string ⟨#[]⟩, .string ⟨#[]⟩, .slice (some ⟨n + 1 + 1 + 1 + 1 + 1, 0, none⟩) 1 1, .slice none 0 0] 26, .cells #[.int .i64 1, .string ⟨#[]⟩, .string ⟨#[]⟩, .slice none 0 0, .slice none 0 0] 26, .cells #[.int .i64 6, .string ⟨#[]⟩, .string ⟨#[]⟩, .slice (some ⟨n + 1 + 1 + 1 + 1 + 1 + 1 + 1, 0, none⟩) 1 1, .slice none 0 0] 26]

theorem aw_facts (w : World) : let W := allocs w (objs w.heap.size)
    Vals W tyF.d [.int .i64 7, .string ⟨#[]⟩, .string ⟨#[]⟩, .slice (some ⟨w.heap.size + 1, 0, none⟩) 2 2, .slice (some ⟨w.heap.size + 1 + 1, 0, none⟩) 1 1] ∧ SL W 1 (strs [⟨#[84]⟩]) 1 (some ⟨w.heap.size + 1 + 1 + 1 + 1, 0, none⟩) 1 ∧ SL W 5 (Ty.ds [tySV]) 1 (some ⟨w.heap.size + 1 + 1 + 1 + 1 + 1 + 1, 0, none⟩) 1 ∧ SL W 5 (Ty.ds [tySI]) 1 (some ⟨w.heap.size + 1 + 1 + 1 + 1 + 1 + 1 + 1 + 1, 0, none⟩) 1 := by
  intro W
  have h0 : W.heap[w.heap.size + 0]? = _ := allocs_at (objs w.heap.size) w 0 (by simp [objs])
  have h1 : W.heap[w.heap.size + 1]? = _ := allocs_at (objs w.heap.size) w 1 (by simp [objs])
  have h2 : W.heap[w.heap.size + 2]? = _ := allocs_at (objs w.heap.size) w 2 (by simp [objs])
  have h3 : W.heap[w.heap.size + 3]? = _ := allocs_at (objs w.heap.size) w 3 (by simp [objs])
  have h4 : W.heap[w.heap.size + 4]? = _ := allocs_at (objs w.heap.size) w 4 (by simp [objs])
  have h5 : W.heap[w.heap.size + 5]? = _ := allocs_at (objs w.heap.size) w 5 (by simp [objs])
  have h6 : W.heap[w.heap.size + 6]? = _ := allocs_at (objs w.heap.size) w 6 (by simp [objs])
  have h7 : W.heap[w.heap.size + 7]? = _ := allocs_at (objs w.heap.size) w 7 (by simp [objs])
  have h8 : W.heap[w.heap.size + 8]? = _ := allocs_at (objs w.heap.size) w 8 (by simp [objs])
  have s0 : SL W 5 (Ty.ds [tyS]) 1 (some ⟨w.heap.size, 0, none⟩) 1 := sl_one h0 (flat_ty W 3 _ ⟨by decide, by decide⟩ (by decide))
  have s1 : SL W 5 (Ty.ds [tyI, tySS]) 2 (some ⟨w.heap.size + 1, 0, none⟩) 2 := sl_two (vs := [.int .i64 1, .string ⟨#[]⟩, .string ⟨#[]⟩, .slice none 0 0, .slice none 0 0]) h1 rfl (flat_ty W 1 _ ⟨by decide, by decide⟩ (by decide)) (arg_ty W 6 [tyS] _ _ ⟨by decide, by decide⟩ s0)
  have s2 : SL W 5 (Ty.ds [tyB]) 1 (some ⟨w.heap.size + 1 + 1, 0, none⟩) 1 := sl_one h2 (flat_ty W 2 _ ⟨by decide, by decide⟩ (by decide))
  have s5 : SL W 5 (Ty.ds [tyV]) 1 (some ⟨w.heap.size + 1 + 1 + 1 + 1 + 1, 0, none⟩) 1 := sl_one h5 (flat_ty W 9 _ ⟨by decide, by decide⟩ (by decide))
  have s6 : SL W 5 (Ty.ds [tySV]) 1 (some ⟨w.heap.size + 1 + 1 + 1 + 1 + 1 + 1, 0, none⟩) 1 := sl_one h6 (arg_ty W 6 [tyV] _ _ ⟨by decide, by decide⟩ s5)
  have s7 : SL W 5 (Ty.ds [tyI]) 1 (some ⟨w.heap.size + 1 + 1 + 1 + 1 + 1 + 1 + 1, 0, none⟩) 1 := sl_one h7 (flat_ty W 1 _ ⟨by decide, by decide⟩ (by decide))
  have s8 : SL W 5 (Ty.ds [tySI]) 1 (some ⟨w.heap.size + 1 + 1 + 1 + 1 + 1 + 1 + 1 + 1, 0, none⟩) 1 := sl_one h8 (arg_ty W 6 [tyI] _ _ ⟨by decide, by decide⟩ s7)
  exact ⟨Ty.shut (t := tyF) ⟨by decide, by decide⟩ (by decide) (by decide) s1 s2, strs_one h4 (by decide), s6, s8⟩

set_option maxRecDepth 100000 in
set_option maxHeartbeats 3200000 in
theorem awake_any (w : World) : Calls Try.prog 15 #[] w (Ans w (.bool true)) := by
  have hf : Vals (((((((((w.alloc (.cells #[.int .i64 3, .string ⟨#[]⟩, .string ⟨#[]⟩, .slice none 0 0, .slice none 0 0] 26)).alloc (.cells #[.int .i64 1, .string ⟨#[]⟩, .string ⟨#[]⟩, .slice none 0 0, .slice none 0 0, .int .i64 6, .string ⟨#[]⟩, .string ⟨#[]⟩, .slice (some ⟨w.heap.size, 0, none⟩) 1 1, .slice none 0 0] 26)).alloc (.cells #[.int .i64 2, .string ⟨#[]⟩, .string ⟨#[]⟩, .slice none 0 0, .slice none 0 0] 26)).alloc (.cells #[.int .i64 7, .string ⟨#[]⟩, .string ⟨#[]⟩, .slice (some ⟨w.heap.size + 1, 0, none⟩) 2 2, .slice (some ⟨w.heap.size + 1 + 1, 0, none⟩) 1 1] 26)).alloc (.cells #[.string ⟨#[84]⟩] 9)).alloc (.cells #[.int .i64 9, .string ⟨#[]⟩, .string ⟨#[84]⟩, .slice none 0 0, .slice none 0 0] 26)).alloc (.cells #[.int .i64 6, .string ⟨#[]⟩, .string ⟨#[]⟩, .slice (some ⟨w.heap.size + 1 + 1 + 1 + 1 + 1, 0, none⟩) 1 1, .slice none 0 0] 26)).alloc (.cells #[.int .i64 1, .string ⟨#[]⟩, .string ⟨#[]⟩, .slice none 0 0, .slice none 0 0] 26)).alloc (.cells #[.int .i64 6, .string ⟨#[]⟩, .string ⟨#[]⟩, .slice (some ⟨w.heap.size + 1 + 1 + 1 + 1 + 1 + 1 + 1, 0, none⟩) 1 1, .slice none 0 0] 26)) tyF.d [.int .i64 7, .string ⟨#[]⟩, .string ⟨#[]⟩, .slice (some ⟨w.heap.size + 1, 0, none⟩) 2 2, .slice (some ⟨w.heap.size + 1 + 1, 0, none⟩) 1 1] ∧ SL (((((((((w.alloc (.cells #[.int .i64 3, .string ⟨#[]⟩, .string ⟨#[]⟩, .slice none 0 0, .slice none 0 0] 26)).alloc (.cells #[.int .i64 1, .string ⟨#[]⟩, .string ⟨#[]⟩, .slice none 0 0, .slice none 0 0, .int .i64 6, .string ⟨#[]⟩, .string ⟨#[]⟩, .slice (some ⟨w.heap.size, 0, none⟩) 1 1, .slice none 0 0] 26)).alloc (.cells #[.int .i64 2, .string ⟨#[]⟩, .string ⟨#[]⟩, .slice none 0 0, .slice none 0 0] 26)).alloc (.cells #[.int .i64 7, .string ⟨#[]⟩, .string ⟨#[]⟩, .slice (some ⟨w.heap.size + 1, 0, none⟩) 2 2, .slice (some ⟨w.heap.size + 1 + 1, 0, none⟩) 1 1] 26)).alloc (.cells #[.string ⟨#[84]⟩] 9)).alloc (.cells #[.int .i64 9, .string ⟨#[]⟩, .string ⟨#[84]⟩, .slice none 0 0, .slice none 0 0] 26)).alloc (.cells #[.int .i64 6, .string ⟨#[]⟩, .string ⟨#[]⟩, .slice (some ⟨w.heap.size + 1 + 1 + 1 + 1 + 1, 0, none⟩) 1 1, .slice none 0 0] 26)).alloc (.cells #[.int .i64 1, .string ⟨#[]⟩, .string ⟨#[]⟩, .slice none 0 0, .slice none 0 0] 26)).alloc (.cells #[.int .i64 6, .string ⟨#[]⟩, .string ⟨#[]⟩, .slice (some ⟨w.heap.size + 1 + 1 + 1 + 1 + 1 + 1 + 1, 0, none⟩) 1 1, .slice none 0 0] 26)) 1 (strs [⟨#[84]⟩]) 1 (some ⟨w.heap.size + 1 + 1 + 1 + 1, 0, none⟩) 1 ∧ SL (((((((((w.alloc (.cells #[.int .i64 3, .string ⟨#[]⟩, .string ⟨#[]⟩, .slice none 0 0, .slice none 0 0] 26)).alloc (.cells #[.int .i64 1, .string ⟨#[]⟩, .string ⟨#[]⟩, .slice none 0 0, .slice none 0 0, .int .i64 6, .string ⟨#[]⟩, .string ⟨#[]⟩, .slice (some ⟨w.heap.size, 0, none⟩) 1 1, .slice none 0 0] 26)).alloc (.cells #[.int .i64 2, .string ⟨#[]⟩, .string ⟨#[]⟩, .slice none 0 0, .slice none 0 0] 26)).alloc (.cells #[.int .i64 7, .string ⟨#[]⟩, .string ⟨#[]⟩, .slice (some ⟨w.heap.size + 1, 0, none⟩) 2 2, .slice (some ⟨w.heap.size + 1 + 1, 0, none⟩) 1 1] 26)).alloc (.cells #[.string ⟨#[84]⟩] 9)).alloc (.cells #[.int .i64 9, .string ⟨#[]⟩, .string ⟨#[84]⟩, .slice none 0 0, .slice none 0 0] 26)).alloc (.cells #[.int .i64 6, .string ⟨#[]⟩, .string ⟨#[]⟩, .slice (some ⟨w.heap.size + 1 + 1 + 1 + 1 + 1, 0, none⟩) 1 1, .slice none 0 0] 26)).alloc (.cells #[.int .i64 1, .string ⟨#[]⟩, .string ⟨#[]⟩, .slice none 0 0, .slice none 0 0] 26)).alloc (.cells #[.int .i64 6, .string ⟨#[]⟩, .string ⟨#[]⟩, .slice (some ⟨w.heap.size + 1 + 1 + 1 + 1 + 1 + 1 + 1, 0, none⟩) 1 1, .slice none 0 0] 26)) 5 (Ty.ds [tySV]) 1 (some ⟨w.heap.size + 1 + 1 + 1 + 1 + 1 + 1, 0, none⟩) 1 ∧ SL (((((((((w.alloc (.cells #[.int .i64 3, .string ⟨#[]⟩, .string ⟨#[]⟩, .slice none 0 0, .slice none 0 0] 26)).alloc (.cells #[.int .i64 1, .string ⟨#[]⟩, .string ⟨#[]⟩, .slice none 0 0, .slice none 0 0, .int .i64 6, .string ⟨#[]⟩, .string ⟨#[]⟩, .slice (some ⟨w.heap.size, 0, none⟩) 1 1, .slice none 0 0] 26)).alloc (.cells #[.int .i64 2, .string ⟨#[]⟩, .string ⟨#[]⟩, .slice none 0 0, .slice none 0 0] 26)).alloc (.cells #[.int .i64 7, .string ⟨#[]⟩, .string ⟨#[]⟩, .slice (some ⟨w.heap.size + 1, 0, none⟩) 2 2, .slice (some ⟨w.heap.size + 1 + 1, 0, none⟩) 1 1] 26)).alloc (.cells #[.string ⟨#[84]⟩] 9)).alloc (.cells #[.int .i64 9, .string ⟨#[]⟩, .string ⟨#[84]⟩, .slice none 0 0, .slice none 0 0] 26)).alloc (.cells #[.int .i64 6, .string ⟨#[]⟩, .string ⟨#[]⟩, .slice (some ⟨w.heap.size + 1 + 1 + 1 + 1 + 1, 0, none⟩) 1 1, .slice none 0 0] 26)).alloc (.cells #[.int .i64 1, .string ⟨#[]⟩, .string ⟨#[]⟩, .slice none 0 0, .slice none 0 0] 26)).alloc (.cells #[.int .i64 6, .string ⟨#[]⟩, .string ⟨#[]⟩, .slice (some ⟨w.heap.size + 1 + 1 + 1 + 1 + 1 + 1 + 1, 0, none⟩) 1 1, .slice none 0 0] 26)) 5 (Ty.ds [tySI]) 1 (some ⟨w.heap.size + 1 + 1 + 1 + 1 + 1 + 1 + 1 + 1, 0, none⟩) 1 := aw_facts w
  have HB := Lib.hid (show Below w.heap.size w (((((((((w.alloc (.cells #[.int .i64 3, .string ⟨#[]⟩, .string ⟨#[]⟩, .slice none 0 0, .slice none 0 0] 26)).alloc (.cells #[.int .i64 1, .string ⟨#[]⟩, .string ⟨#[]⟩, .slice none 0 0, .slice none 0 0, .int .i64 6, .string ⟨#[]⟩, .string ⟨#[]⟩, .slice (some ⟨w.heap.size, 0, none⟩) 1 1, .slice none 0 0] 26)).alloc (.cells #[.int .i64 2, .string ⟨#[]⟩, .string ⟨#[]⟩, .slice none 0 0, .slice none 0 0] 26)).alloc (.cells #[.int .i64 7, .string ⟨#[]⟩, .string ⟨#[]⟩, .slice (some ⟨w.heap.size + 1, 0, none⟩) 2 2, .slice (some ⟨w.heap.size + 1 + 1, 0, none⟩) 1 1] 26)).alloc (.cells #[.string ⟨#[84]⟩] 9)).alloc (.cells #[.int .i64 9, .string ⟨#[]⟩, .string ⟨#[84]⟩, .slice none 0 0, .slice none 0 0] 26)).alloc (.cells #[.int .i64 6, .string ⟨#[]⟩, .string ⟨#[]⟩, .slice (some ⟨w.heap.size + 1 + 1 + 1 + 1 + 1, 0, none⟩) 1 1, .slice none 0 0] 26)).alloc (.cells #[.int .i64 1, .string ⟨#[]⟩, .string ⟨#[]⟩, .slice none 0 0, .slice none 0 0] 26)).alloc (.cells #[.int .i64 6, .string ⟨#[]⟩, .string ⟨#[]⟩, .slice (some ⟨w.heap.size + 1 + 1 + 1 + 1 + 1 + 1 + 1, 0, none⟩) 1 1, .slice none 0 0] 26)) from ((((((((((Below.refl w.heap.size w).alloc (Nat.le_refl _) _).alloc (by simp only [World.size_alloc]; omega) _).alloc (by simp only [World.size_alloc]; omega) _).alloc (by simp only [World.size_alloc]; omega) _).alloc (by simp only [World.size_alloc]; omega) _).alloc (by simp only [World.size_alloc]; omega) _).alloc (by simp only [World.size_alloc]; omega) _).alloc (by simp only [World.size_alloc]; omega) _).alloc (by simp only [World.size_alloc]; omega) _))
  have HT := Lib.hid hf.1
  have HI := Lib.hid (infer_any (((((((((w.alloc (.cells #[.int .i64 3, .string ⟨#[]⟩, .string ⟨#[]⟩, .slice none 0 0, .slice none 0 0] 26)).alloc (.cells #[.int .i64 1, .string ⟨#[]⟩, .string ⟨#[]⟩, .slice none 0 0, .slice none 0 0, .int .i64 6, .string ⟨#[]⟩, .string ⟨#[]⟩, .slice (some ⟨w.heap.size, 0, none⟩) 1 1, .slice none 0 0] 26)).alloc (.cells #[.int .i64 2, .string ⟨#[]⟩, .string ⟨#[]⟩, .slice none 0 0, .slice none 0 0] 26)).alloc (.cells #[.int .i64 7, .string ⟨#[]⟩, .string ⟨#[]⟩, .slice (some ⟨w.heap.size + 1, 0, none⟩) 2 2, .slice (some ⟨w.heap.size + 1 + 1, 0, none⟩) 1 1] 26)).alloc (.cells #[.string ⟨#[84]⟩] 9)).alloc (.cells #[.int .i64 9, .string ⟨#[]⟩, .string ⟨#[84]⟩, .slice none 0 0, .slice none 0 0] 26)).alloc (.cells #[.int .i64 6, .string ⟨#[]⟩, .string ⟨#[]⟩, .slice (some ⟨w.heap.size + 1 + 1 + 1 + 1 + 1, 0, none⟩) 1 1, .slice none 0 0] 26)).alloc (.cells #[.int .i64 1, .string ⟨#[]⟩, .string ⟨#[]⟩, .slice none 0 0, .slice none 0 0] 26)).alloc (.cells #[.int .i64 6, .string ⟨#[]⟩, .string ⟨#[]⟩, .slice (some ⟨w.heap.size + 1 + 1 + 1 + 1 + 1 + 1 + 1, 0, none⟩) 1 1, .slice none 0 0] 26)) [⟨#[84]⟩] [tySV] [tySI] _ _ _ _ _ _ hf.2.1 hf.2.2.1 hf.2.2.2 (by decide) (by decide))
  have HB3 := Lib.hid (show (((((((((w.alloc (.cells #[.int .i64 3, .string ⟨#[]⟩, .string ⟨#[]⟩, .slice none 0 0, .slice none 0 0] 26)).alloc (.cells #[.int .i64 1, .string ⟨#[]⟩, .string ⟨#[]⟩, .slice none 0 0, .slice none 0 0, .int .i64 6, .string ⟨#[]⟩, .string ⟨#[]⟩, .slice (some ⟨w.heap.size, 0, none⟩) 1 1, .slice none 0 0] 26)).alloc (.cells #[.int .i64 2, .string ⟨#[]⟩, .string ⟨#[]⟩, .slice none 0 0, .slice none 0 0] 26)).alloc (.cells #[.int .i64 7, .string ⟨#[]⟩, .string ⟨#[]⟩, .slice (some ⟨w.heap.size + 1, 0, none⟩) 2 2, .slice (some ⟨w.heap.size + 1 + 1, 0, none⟩) 1 1] 26)).alloc (.cells #[.string ⟨#[84]⟩] 9)).alloc (.cells #[.int .i64 9, .string ⟨#[]⟩, .string ⟨#[84]⟩, .slice none 0 0, .slice none 0 0] 26)).alloc (.cells #[.int .i64 6, .string ⟨#[]⟩, .string ⟨#[]⟩, .slice (some ⟨w.heap.size + 1 + 1 + 1 + 1 + 1, 0, none⟩) 1 1, .slice none 0 0] 26)).alloc (.cells #[.int .i64 1, .string ⟨#[]⟩, .string ⟨#[]⟩, .slice none 0 0, .slice none 0 0] 26)).alloc (.cells #[.int .i64 6, .string ⟨#[]⟩, .string ⟨#[]⟩, .slice (some ⟨w.heap.size + 1 + 1 + 1 + 1 + 1 + 1 + 1, 0, none⟩) 1 1, .slice none 0 0] 26)).heap[w.heap.size + 1 + 1 + 1]? = some (.cells #[.int .i64 7, .string ⟨#[]⟩, .string ⟨#[]⟩, .slice (some ⟨w.heap.size + 1, 0, none⟩) 2 2, .slice (some ⟨w.heap.size + 1 + 1, 0, none⟩) 1 1] 26) from allocs_at (objs w.heap.size) w 3 (by simp [objs]))
  clear hf
  go_enter Try.func15, Try.ntmps15
  go_wp2_with fail
  refine HI.out.mono ?_
  rw [infer_a]
  rintro e w1 (⟨h, _⟩ | ⟨ts, A, c, hts, rfl, hsl, hb⟩)
  · cases h
  injection hts with hts
  subst hts
  have HB1 := Lib.hid (HB.out.trans (hb.mono HB.out.size))
  have HSL := Lib.hid (show SL w1 5 (Ty.ds [tyI]) 1 A c from hsl.sub fun a v q => ((new_cell _ _ _ _ _).1 q).2)
  have HT1 := Lib.hid (HT.out.sub (Below.sub hb))
  have HBK := Lib.hid ((hb.block _ (lt_of_block HB3.out)).trans HB3.out)
  have v0 : w1.cell? ⟨w.heap.size + 1 + 1 + 1, 0, none⟩ = some (.int .i64 7) := (cell_at HBK.out 0).trans rfl
  have v1 : w1.cell? ⟨w.heap.size + 1 + 1 + 1, 1, none⟩ = some (.string ⟨#[]⟩) := (cell_at HBK.out 1).trans rfl
  have v2 : w1.cell? ⟨w.heap.size + 1 + 1 + 1, 2, none⟩ = some (.string ⟨#[]⟩) := (cell_at HBK.out 2).trans rfl
  have v3 : w1.cell? ⟨w.heap.size + 1 + 1 + 1, 3, none⟩ = some (.slice (some ⟨w.heap.size + 1, 0, none⟩) 2 2) := (cell_at HBK.out 3).trans rfl
  have v4 : w1.cell? ⟨w.heap.size + 1 + 1 + 1, 4, none⟩ = some (.slice (some ⟨w.heap.size + 1 + 1, 0, none⟩) 1 1) := (cell_at HBK.out 4).trans rfl
  clear hb hsl
  go_wp2_with fail
  refine (textC tyF (by decide) (by decide) w1 _ HT1.out).mono ?_
  rw [text_a]
  rintro e w2 ⟨rfl, hb⟩
  obtain ⟨b, o, hA, E3, x3, E4, x4, g0, _⟩ := Ty.at (HSL.out.sub (Below.sub hb)).2.2.2 0 (by decide)
  subst hA
  rw [Nat.zero_mul, Nat.add_zero] at g0
  have g0' : w2.cell? ⟨b, o, none⟩ = some (.int .i64 1) := g0
  have HB2 := Lib.hid (HB1.out.trans (hb.mono HB1.out.size))
  clear hb g0
  go_wp2_with fail
  exact bodyPost_ret (results_tmp rfl _ _ _) rfl ⟨rfl, HB2.out⟩
end Go.Proofs.Ytiecbgclkdlpkaa
