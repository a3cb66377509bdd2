/-
  What came in, opened: texts, types, lists of them, of fields and of units. The condition: texts and lists are within the reach.
-/
import Derived.Test.YtiecbgclkdlpkaaOpen
import Derived.Test.YtiecbgclkdlpkaaKIdx
namespace Go.Proofs.Ytiecbgclkdlpkaa
open Go.RowKit Go.ChangeShapes Go.WideShapes Go.ChangeAt
set_option linter.unusedVariables false

theorem reading_sl {w : World} {sz : Nat} {l : List (List D)} {v : Value} (h : Vals w [.lst sz l] [v]) : ∃ A c, v = .slice A l.length c ∧ SL w sz l l.length A c := by
  obtain ⟨v', r, e, hd, hr⟩ := h
  injection e with e1 e2
  subst e1
  exact SL.of hd
variable {H : Type} {enc : TypeId × Value → H} {W : World} {base : Nat} {v : Value} {d : DataW H} {p : List MemPlace}
set_option maxRecDepth 100000 in
theorem open_ty (hv : Value.okWide Try.prog W .any base 26 v) (h0 : DataW.Trod enc Try.prog W 0 (fun _ => true) true 26 v d p) (hz : Sized 26 d) : ∃ (t : Ty) (vs : List Value), v = .agg vs.toArray ∧ Vals W t.d vs := by
  obtain ⟨cs, rfl, _⟩ := okWide_struct Try.underlying26 hv
  obtain ⟨fuel, hf⟩ := h0
  rw [show (Value.agg cs).cells = cs from rfl] at hf
  obtain ⟨u, hu⟩ := readTy fuel _ _ hf hz
  exact ⟨u, cs.toList, by rw [Array.toArray_toList], hu⟩
set_option maxRecDepth 100000 in
theorem open_str (hv : Value.okWide Try.prog W .any base 9 v) (h0 : DataW.Trod enc Try.prog W 0 (fun _ => true) true 9 v d p) (hz : Sized 9 d) : ∃ s : ByteArray, v = .string s ∧ s.size ≤ Reach := by
  obtain ⟨s, rfl⟩ := okWide_string Try.underlying9 hv
  obtain ⟨fuel, hf⟩ := h0
  obtain ⟨s', hs⟩ := read_str Try.underlying9 hf hz
  obtain ⟨v', r, e, hd, hr⟩ := hs
  have e' : [Value.string s] = v' :: r := e
  injection e' with e1 e2
  subst e1
  simp only [DV] at hd
  exact ⟨s, rfl, by obtain ⟨h1, h2⟩ := hd; injection h1 with h1; exact h1 ▸ h2⟩
set_option maxRecDepth 100000 in
theorem open_u8 (hv : Value.okWide Try.prog W .any base 5 v) (h0 : DataW.Trod enc Try.prog W 0 (fun _ => true) true 5 v d p) : ∃ y : Nat, v = .int .u8 y ∧ y < 256 := by
  obtain ⟨n, rfl, _, _, hw⟩ := open_int Try.underlying5 hv h0
  simp [Lit.wf, IntKind.min, IntKind.max, IntKind.signed, IntKind.bits] at hw
  exact ⟨n.toNat, by rw [Int.toNat_of_nonneg (by omega)], by omega⟩
set_option maxRecDepth 100000 in
theorem open_row {α : Type} (dd : α → List D) (T e : TypeId) (n : Nat) (hT : Try.prog.underlying T = some (.slice e)) (hc : Try.prog.cellsOf e = n) (hn : 0 < n) (hb : 1 ≤ Try.prog.bytesOf e)
    (hE : ∀ (f' : Nat) (cs' : List Value) (y : DataW H × List MemPlace), DataW.trod enc Try.prog W 0 (fun _ => true) true f' e cs' = some y → Sized e y.1 → ∃ a : α, Vals W (dd a) cs')
    (hv : Value.okWide Try.prog W .any base T v) (h0 : DataW.Trod enc Try.prog W 0 (fun _ => true) true T v d p) (hz : Sized T d) : ∃ (l : List α) (A : Option Addr) (c : Nat), v = .slice A l.length c ∧ SL W n (l.map dd) l.length A c := by
  obtain ⟨a0, len0, cap0, rfl⟩ := okWide_slice hT hv
  obtain ⟨fuel, hf⟩ := h0
  obtain ⟨l, hl⟩ := read_slice dd hc hn hb hT hf hz (fun f' cs' y _ hy hzy => hE f' cs' y hy hzy)
  obtain ⟨A, c, he, hs⟩ := reading_sl (show Vals W [.lst n (l.map dd)] [.slice a0 len0 cap0] from hl)
  rw [List.length_map] at he hs
  exact ⟨l, A, c, he, hs⟩
set_option maxRecDepth 100000 in
theorem open_tys (hv : Value.okWide Try.prog W .any base 24 v) (h0 : DataW.Trod enc Try.prog W 0 (fun _ => true) true 24 v d p) (hz : Sized 24 d) : ∃ (l : List Ty) (A : Option Addr) (c : Nat), v = .slice A l.length c ∧ SL W 5 (Ty.ds l) l.length A c := by
  obtain ⟨l, A, c, he, hs⟩ := open_row Ty.d 24 26 5 (by kernel_rfl) (by kernel_rfl) (by decide) (of_decide_eq_true (by kernel_rfl)) (fun f' cs' y hy hzy => readTy f' cs' y hy hzy) hv h0 hz
  exact ⟨l, A, c, he, by rw [Ty.ds_map]; exact hs⟩
set_option maxRecDepth 100000 in
theorem open_flds (hv : Value.okWide Try.prog W .any base 23 v) (h0 : DataW.Trod enc Try.prog W 0 (fun _ => true) true 23 v d p) (hz : Sized 23 d) : ∃ (l : List Fld) (A : Option Addr) (c : Nat), v = .slice A l.length c ∧ SL W 6 (Fld.ds l) l.length A c := by
  obtain ⟨l, A, c, he, hs⟩ := open_row Fld.d 23 56 6 (by kernel_rfl) (by kernel_rfl) (by decide) (of_decide_eq_true (by kernel_rfl)) (fun f' cs' y hy hzy => readFld f' cs' y hy hzy) hv h0 hz
  exact ⟨l, A, c, he, by rw [Fld.ds_map]; exact hs⟩
set_option maxRecDepth 100000 in
theorem open_uns (hv : Value.okWide Try.prog W .any base 22 v) (h0 : DataW.Trod enc Try.prog W 0 (fun _ => true) true 22 v d p) (hz : Sized 22 d) : ∃ (l : List Un) (A : Option Addr) (c : Nat), v = .slice A l.length c ∧ SL W 4 (Un.ds l) l.length A c := by
  obtain ⟨l, A, c, he, hs⟩ := open_row Un.d 22 63 4 (by kernel_rfl) (by kernel_rfl) (by decide) (of_decide_eq_true (by kernel_rfl)) (fun f' cs' y hy hzy => readUn f' cs' y hy hzy) hv h0 hz
  exact ⟨l, A, c, he, by rw [Un.ds_map]; exact hs⟩
set_option maxRecDepth 100000 in
theorem open_strs (hv : Value.okWide Try.prog W .any base 36 v) (h0 : DataW.Trod enc Try.prog W 0 (fun _ => true) true 36 v d p) (hz : Sized 36 d) : ∃ (l : List ByteArray) (A : Option Addr) (c : Nat), v = .slice A l.length c ∧ SL W 1 (strs l) l.length A c := by
  obtain ⟨l, A, c, he, hs⟩ := open_row (fun s : ByteArray => [D.str s]) 36 9 1 (by kernel_rfl) (by kernel_rfl) (by decide) (of_decide_eq_true (by kernel_rfl)) (fun f' cs' y hy hzy => read_str Try.underlying9 hy hzy) hv h0 hz
  exact ⟨l, A, c, he, hs⟩
end Go.Proofs.Ytiecbgclkdlpkaa
