/-
  The plain types of package api as Lean data; how they lie in cells, and back. No condition.
-/
import Derived.Test.YtiecbgclkdlpkaaBase
namespace Go.Proofs.Ytiecbgclkdlpkaa
open Go.RowKit

/-- A slice that reads: its length, its capacity, its elements. -/
def SL (w : World) (sz : Nat) (l : List (List D)) (n : Nat) (A : Option Addr) (c : Nat) : Prop := l.length = n ∧ n ≤ c ∧ n ≤ Reach ∧ Elems w sz l A
theorem SL.sub {w w' : World} (h : Sub w w') {sz : Nat} {l : List (List D)} {n : Nat} {A : Option Addr} {c : Nat} (q : SL w sz l n A c) : SL w' sz l n A c := ⟨q.1, q.2.1, q.2.2.1, q.2.2.2.sub h⟩
theorem SL.of {w : World} {sz : Nat} {l : List (List D)} {v : Value} (h : DV w (.lst sz l) v) : ∃ A c, v = .slice A l.length c ∧ SL w sz l l.length A c := by
  simp only [DV] at h
  obtain ⟨A, c, hv, h1, h2, h3⟩ := h
  exact ⟨A, c, hv, rfl, h1, h2, h3⟩
theorem SL.dv {w : World} {sz : Nat} {l : List (List D)} {n : Nat} {A : Option Addr} {c : Nat} (q : SL w sz l n A c) : DV w (.lst sz l) (.slice A n c) := by
  obtain ⟨rfl, h1, h2, h3⟩ := q
  simp only [DV]
  exact ⟨A, c, rfl, h1, h2, h3⟩

theorem dv_num {w : World} {n : Int} (h : In64 n) : DV w (.num n) (.int .i64 n) := by simp only [DV]; exact ⟨trivial, h⟩
theorem dv_str {w : World} {s : ByteArray} (h : s.size ≤ Reach) : DV w (.str s) (.string s) := by simp only [DV]; exact ⟨trivial, h⟩
theorem dv_boo (w : World) (b : Bool) : DV w (.boo b) (.bool b) := by simp only [DV]

inductive Ty where
  | mk (kind : Int) (pkg : ByteArray) (name : ByteArray) (args : List Ty) (res : List Ty)
def Ty.kind : Ty → Int
  | .mk x _ _ _ _ => x
def Ty.pkg : Ty → ByteArray
  | .mk _ x _ _ _ => x
def Ty.name : Ty → ByteArray
  | .mk _ _ x _ _ => x
def Ty.args : Ty → List Ty
  | .mk _ _ _ x _ => x
def Ty.res : Ty → List Ty
  | .mk _ _ _ _ x => x
mutual
def Ty.d : Ty → List D
  | .mk x0 x1 x2 x3 x4 => [.num x0, .str x1, .str x2, .lst 5 (Ty.ds x3), .lst 5 (Ty.ds x4)]
def Ty.ds : List Ty → List (List D)
  | [] => []
  | t :: r => t.d :: Ty.ds r
end
theorem Ty.ds_length : ∀ l : List Ty, (Ty.ds l).length = l.length
  | [] => by simp [Ty.ds]
  | t :: r => by simp [Ty.ds, Ty.ds_length r]
theorem Ty.ds_get : ∀ (l : List Ty) (k : Nat) (h : k < l.length) (h' : k < (Ty.ds l).length), (Ty.ds l)[k] = l[k].d
  | t :: r, 0, _, _ => by simp [Ty.ds]
  | t :: r, k + 1, h, h' => by simp only [Ty.ds, List.getElem_cons_succ]; exact Ty.ds_get r k (by simpa using h) (by simpa [Ty.ds] using h')
theorem Ty.ds_append : ∀ a b : List Ty, Ty.ds (a ++ b) = Ty.ds a ++ Ty.ds b
  | [], b => by simp [Ty.ds]
  | t :: r, b => by simp [Ty.ds, Ty.ds_append r b]
theorem Ty.opn {w : World} {t : Ty} {vs : List Value} (h : Vals w t.d vs) : ∃ A3 c3 A4 c4, vs = [.int .i64 t.kind, .string t.pkg, .string t.name, .slice A3 t.args.length c3, .slice A4 t.res.length c4] ∧ In64 t.kind ∧ t.pkg.size ≤ Reach ∧ t.name.size ≤ Reach ∧ SL w 5 (Ty.ds t.args) t.args.length A3 c3 ∧ SL w 5 (Ty.ds t.res) t.res.length A4 c4 := by
  cases t with | mk x0 x1 x2 x3 x4 =>
  simp only [Ty.d] at h
  obtain ⟨v0, r0, rfl, h0, h⟩ := h
  obtain ⟨v1, r1, rfl, h1, h⟩ := h
  obtain ⟨v2, r2, rfl, h2, h⟩ := h
  obtain ⟨v3, r3, rfl, h3, h⟩ := h
  obtain ⟨v4, r4, rfl, h4, h⟩ := h
  obtain rfl := (show r4 = [] from h)
  simp only [DV] at h0
  obtain ⟨rfl, q0⟩ := h0
  simp only [DV] at h1
  obtain ⟨rfl, q1⟩ := h1
  simp only [DV] at h2
  obtain ⟨rfl, q2⟩ := h2
  obtain ⟨A3, c3, rfl, q3⟩ := SL.of h3
  simp only [Ty.ds_length] at q3
  obtain ⟨A4, c4, rfl, q4⟩ := SL.of h4
  simp only [Ty.ds_length] at q4
  exact ⟨A3, c3, A4, c4, by simp only [Ty.ds_length, Ty.args, Ty.kind, Ty.name, Ty.pkg, Ty.res], q0, q1, q2, q3, q4⟩
theorem Ty.shut {w : World} {t : Ty} {A3 : Option Addr} {c3 : Nat} {A4 : Option Addr} {c4 : Nat} (h0 : In64 t.kind) (h1 : t.pkg.size ≤ Reach) (h2 : t.name.size ≤ Reach) (h3 : SL w 5 (Ty.ds t.args) t.args.length A3 c3) (h4 : SL w 5 (Ty.ds t.res) t.res.length A4 c4) : Vals w t.d [.int .i64 t.kind, .string t.pkg, .string t.name, .slice A3 t.args.length c3, .slice A4 t.res.length c4] := by
  cases t with | mk x0 x1 x2 x3 x4 =>
  simp only [Ty.d]
  exact ⟨_, _, rfl, (dv_num h0), ⟨_, _, rfl, (dv_str h1), ⟨_, _, rfl, (dv_str h2), ⟨_, _, rfl, h3.dv, ⟨_, _, rfl, h4.dv, rfl⟩⟩⟩⟩⟩
theorem Ty.at {w : World} {l : List Ty} {A : Option Addr} (h : Elems w 5 (Ty.ds l) A) (k : Nat) (hk : k < l.length) : ∃ b o, A = some ⟨b, o, none⟩ ∧ ∃ A3 c3 A4 c4, w.cell? ⟨b, o + k * 5, none⟩ = some (.int .i64 l[k].kind) ∧ w.cell? ⟨b, o + k * 5 + 1, none⟩ = some (.string l[k].pkg) ∧ w.cell? ⟨b, o + k * 5 + 2, none⟩ = some (.string l[k].name) ∧ w.cell? ⟨b, o + k * 5 + 3, none⟩ = some (.slice A3 l[k].args.length c3) ∧ w.cell? ⟨b, o + k * 5 + 4, none⟩ = some (.slice A4 l[k].res.length c4) ∧ In64 l[k].kind ∧ l[k].pkg.size ≤ Reach ∧ l[k].name.size ≤ Reach ∧ SL w 5 (Ty.ds l[k].args) l[k].args.length A3 c3 ∧ SL w 5 (Ty.ds l[k].res) l[k].res.length A4 c4 := by
  obtain ⟨b, o, hA, hc⟩ := h.at k (by rw [Ty.ds_length]; exact hk)
  rw [Ty.ds_get l k hk] at hc
  obtain ⟨vs, hv, hcell⟩ := hc.vals
  obtain ⟨A3, c3, A4, c4, rfl, q0, q1, q2, q3, q4⟩ := Ty.opn hv
  exact ⟨b, o, hA, A3, c3, A4, c4, by simpa using hcell 0 _ rfl, hcell 1 _ rfl, hcell 2 _ rfl, hcell 3 _ rfl, hcell 4 _ rfl, q0, q1, q2, q3, q4⟩

structure Fld where
  name : ByteArray
  type : Ty
def Fld.d (t : Fld) : List D := [.str t.name, .num t.type.kind, .str t.type.pkg, .str t.type.name, .lst 5 (Ty.ds t.type.args), .lst 5 (Ty.ds t.type.res)]
def Fld.ds : List Fld → List (List D)
  | [] => []
  | t :: r => t.d :: Fld.ds r
theorem Fld.ds_length : ∀ l : List Fld, (Fld.ds l).length = l.length
  | [] => by simp [Fld.ds]
  | t :: r => by simp [Fld.ds, Fld.ds_length r]
theorem Fld.ds_get : ∀ (l : List Fld) (k : Nat) (h : k < l.length) (h' : k < (Fld.ds l).length), (Fld.ds l)[k] = l[k].d
  | t :: r, 0, _, _ => by simp [Fld.ds]
  | t :: r, k + 1, h, h' => by simp only [Fld.ds, List.getElem_cons_succ]; exact Fld.ds_get r k (by simpa using h) (by simpa [Fld.ds] using h')
theorem Fld.ds_append : ∀ a b : List Fld, Fld.ds (a ++ b) = Fld.ds a ++ Fld.ds b
  | [], b => by simp [Fld.ds]
  | t :: r, b => by simp [Fld.ds, Fld.ds_append r b]
theorem Fld.opn {w : World} {t : Fld} {vs : List Value} (h : Vals w t.d vs) : ∃ A4 c4 A5 c5, vs = [.string t.name, .int .i64 t.type.kind, .string t.type.pkg, .string t.type.name, .slice A4 t.type.args.length c4, .slice A5 t.type.res.length c5] ∧ t.name.size ≤ Reach ∧ In64 t.type.kind ∧ t.type.pkg.size ≤ Reach ∧ t.type.name.size ≤ Reach ∧ SL w 5 (Ty.ds t.type.args) t.type.args.length A4 c4 ∧ SL w 5 (Ty.ds t.type.res) t.type.res.length A5 c5 := by
  cases t with | mk x0 x1 =>
  cases x1 with | mk y1_0 y1_1 y1_2 y1_3 y1_4 =>
  simp only [Fld.d, Ty.args, Ty.kind, Ty.name, Ty.pkg, Ty.res] at h
  obtain ⟨v0, r0, rfl, h0, h⟩ := h
  obtain ⟨v1, r1, rfl, h1, h⟩ := h
  obtain ⟨v2, r2, rfl, h2, h⟩ := h
  obtain ⟨v3, r3, rfl, h3, h⟩ := h
  obtain ⟨v4, r4, rfl, h4, h⟩ := h
  obtain ⟨v5, r5, rfl, h5, h⟩ := h
  obtain rfl := (show r5 = [] from h)
  simp only [DV] at h0
  obtain ⟨rfl, q0⟩ := h0
  simp only [DV] at h1
  obtain ⟨rfl, q1⟩ := h1
  simp only [DV] at h2
  obtain ⟨rfl, q2⟩ := h2
  simp only [DV] at h3
  obtain ⟨rfl, q3⟩ := h3
  obtain ⟨A4, c4, rfl, q4⟩ := SL.of h4
  simp only [Ty.ds_length] at q4
  obtain ⟨A5, c5, rfl, q5⟩ := SL.of h5
  simp only [Ty.ds_length] at q5
  exact ⟨A4, c4, A5, c5, by simp only [Ty.ds_length, Ty.args, Ty.kind, Ty.name, Ty.pkg, Ty.res], q0, q1, q2, q3, q4, q5⟩
theorem Fld.shut {w : World} {t : Fld} {A4 : Option Addr} {c4 : Nat} {A5 : Option Addr} {c5 : Nat} (h0 : t.name.size ≤ Reach) (h1 : In64 t.type.kind) (h2 : t.type.pkg.size ≤ Reach) (h3 : t.type.name.size ≤ Reach) (h4 : SL w 5 (Ty.ds t.type.args) t.type.args.length A4 c4) (h5 : SL w 5 (Ty.ds t.type.res) t.type.res.length A5 c5) : Vals w t.d [.string t.name, .int .i64 t.type.kind, .string t.type.pkg, .string t.type.name, .slice A4 t.type.args.length c4, .slice A5 t.type.res.length c5] := by
  cases t with | mk x0 x1 =>
  cases x1 with | mk y1_0 y1_1 y1_2 y1_3 y1_4 =>
  simp only [Fld.d, Ty.args, Ty.kind, Ty.name, Ty.pkg, Ty.res]
  exact ⟨_, _, rfl, (dv_str h0), ⟨_, _, rfl, (dv_num h1), ⟨_, _, rfl, (dv_str h2), ⟨_, _, rfl, (dv_str h3), ⟨_, _, rfl, h4.dv, ⟨_, _, rfl, h5.dv, rfl⟩⟩⟩⟩⟩⟩
theorem Fld.at {w : World} {l : List Fld} {A : Option Addr} (h : Elems w 6 (Fld.ds l) A) (k : Nat) (hk : k < l.length) : ∃ b o, A = some ⟨b, o, none⟩ ∧ ∃ A4 c4 A5 c5, w.cell? ⟨b, o + k * 6, none⟩ = some (.string l[k].name) ∧ w.cell? ⟨b, o + k * 6 + 1, none⟩ = some (.int .i64 l[k].type.kind) ∧ w.cell? ⟨b, o + k * 6 + 2, none⟩ = some (.string l[k].type.pkg) ∧ w.cell? ⟨b, o + k * 6 + 3, none⟩ = some (.string l[k].type.name) ∧ w.cell? ⟨b, o + k * 6 + 4, none⟩ = some (.slice A4 l[k].type.args.length c4) ∧ w.cell? ⟨b, o + k * 6 + 5, none⟩ = some (.slice A5 l[k].type.res.length c5) ∧ l[k].name.size ≤ Reach ∧ In64 l[k].type.kind ∧ l[k].type.pkg.size ≤ Reach ∧ l[k].type.name.size ≤ Reach ∧ SL w 5 (Ty.ds l[k].type.args) l[k].type.args.length A4 c4 ∧ SL w 5 (Ty.ds l[k].type.res) l[k].type.res.length A5 c5 := by
  obtain ⟨b, o, hA, hc⟩ := h.at k (by rw [Fld.ds_length]; exact hk)
  rw [Fld.ds_get l k hk] at hc
  obtain ⟨vs, hv, hcell⟩ := hc.vals
  obtain ⟨A4, c4, A5, c5, rfl, q0, q1, q2, q3, q4, q5⟩ := Fld.opn hv
  exact ⟨b, o, hA, A4, c4, A5, c5, by simpa using hcell 0 _ rfl, hcell 1 _ rfl, hcell 2 _ rfl, hcell 3 _ rfl, hcell 4 _ rfl, hcell 5 _ rfl, q0, q1, q2, q3, q4, q5⟩

structure Dcl where
  kind : Int
  name : ByteArray
  of : ByteArray
  value : Int
  type : Ty
  fields : List Fld
def Dcl.d (t : Dcl) : List D := [.num t.kind, .str t.name, .str t.of, .num t.value, .num t.type.kind, .str t.type.pkg, .str t.type.name, .lst 5 (Ty.ds t.type.args), .lst 5 (Ty.ds t.type.res), .lst 6 (Fld.ds t.fields)]
def Dcl.ds : List Dcl → List (List D)
  | [] => []
  | t :: r => t.d :: Dcl.ds r
theorem Dcl.ds_length : ∀ l : List Dcl, (Dcl.ds l).length = l.length
  | [] => by simp [Dcl.ds]
  | t :: r => by simp [Dcl.ds, Dcl.ds_length r]
theorem Dcl.ds_get : ∀ (l : List Dcl) (k : Nat) (h : k < l.length) (h' : k < (Dcl.ds l).length), (Dcl.ds l)[k] = l[k].d
  | t :: r, 0, _, _ => by simp [Dcl.ds]
  | t :: r, k + 1, h, h' => by simp only [Dcl.ds, List.getElem_cons_succ]; exact Dcl.ds_get r k (by simpa using h) (by simpa [Dcl.ds] using h')
theorem Dcl.ds_append : ∀ a b : List Dcl, Dcl.ds (a ++ b) = Dcl.ds a ++ Dcl.ds b
  | [], b => by simp [Dcl.ds]
  | t :: r, b => by simp [Dcl.ds, Dcl.ds_append r b]
theorem Dcl.opn {w : World} {t : Dcl} {vs : List Value} (h : Vals w t.d vs) : ∃ A7 c7 A8 c8 A9 c9, vs = [.int .i64 t.kind, .string t.name, .string t.of, .int .i64 t.value, .int .i64 t.type.kind, .string t.type.pkg, .string t.type.name, .slice A7 t.type.args.length c7, .slice A8 t.type.res.length c8, .slice A9 t.fields.length c9] ∧ In64 t.kind ∧ t.name.size ≤ Reach ∧ t.of.size ≤ Reach ∧ In64 t.value ∧ In64 t.type.kind ∧ t.type.pkg.size ≤ Reach ∧ t.type.name.size ≤ Reach ∧ SL w 5 (Ty.ds t.type.args) t.type.args.length A7 c7 ∧ SL w 5 (Ty.ds t.type.res) t.type.res.length A8 c8 ∧ SL w 6 (Fld.ds t.fields) t.fields.length A9 c9 := by
  cases t with | mk x0 x1 x2 x3 x4 x5 =>
  cases x4 with | mk y4_0 y4_1 y4_2 y4_3 y4_4 =>
  simp only [Dcl.d, Ty.args, Ty.kind, Ty.name, Ty.pkg, Ty.res] at h
  obtain ⟨v0, r0, rfl, h0, h⟩ := h
  obtain ⟨v1, r1, rfl, h1, h⟩ := h
  obtain ⟨v2, r2, rfl, h2, h⟩ := h
  obtain ⟨v3, r3, rfl, h3, h⟩ := h
  obtain ⟨v4, r4, rfl, h4, h⟩ := h
  obtain ⟨v5, r5, rfl, h5, h⟩ := h
  obtain ⟨v6, r6, rfl, h6, h⟩ := h
  obtain ⟨v7, r7, rfl, h7, h⟩ := h
  obtain ⟨v8, r8, rfl, h8, h⟩ := h
  obtain ⟨v9, r9, rfl, h9, h⟩ := h
  obtain rfl := (show r9 = [] from h)
  simp only [DV] at h0
  obtain ⟨rfl, q0⟩ := h0
  simp only [DV] at h1
  obtain ⟨rfl, q1⟩ := h1
  simp only [DV] at h2
  obtain ⟨rfl, q2⟩ := h2
  simp only [DV] at h3
  obtain ⟨rfl, q3⟩ := h3
  simp only [DV] at h4
  obtain ⟨rfl, q4⟩ := h4
  simp only [DV] at h5
  obtain ⟨rfl, q5⟩ := h5
  simp only [DV] at h6
  obtain ⟨rfl, q6⟩ := h6
  obtain ⟨A7, c7, rfl, q7⟩ := SL.of h7
  simp only [Ty.ds_length] at q7
  obtain ⟨A8, c8, rfl, q8⟩ := SL.of h8
  simp only [Ty.ds_length] at q8
  obtain ⟨A9, c9, rfl, q9⟩ := SL.of h9
  simp only [Fld.ds_length] at q9
  exact ⟨A7, c7, A8, c8, A9, c9, by simp only [Fld.ds_length, Ty.ds_length, Ty.args, Ty.kind, Ty.name, Ty.pkg, Ty.res], q0, q1, q2, q3, q4, q5, q6, q7, q8, q9⟩
theorem Dcl.shut {w : World} {t : Dcl} {A7 : Option Addr} {c7 : Nat} {A8 : Option Addr} {c8 : Nat} {A9 : Option Addr} {c9 : Nat} (h0 : In64 t.kind) (h1 : t.name.size ≤ Reach) (h2 : t.of.size ≤ Reach) (h3 : In64 t.value) (h4 : In64 t.type.kind) (h5 : t.type.pkg.size ≤ Reach) (h6 : t.type.name.size ≤ Reach) (h7 : SL w 5 (Ty.ds t.type.args) t.type.args.length A7 c7) (h8 : SL w 5 (Ty.ds t.type.res) t.type.res.length A8 c8) (h9 : SL w 6 (Fld.ds t.fields) t.fields.length A9 c9) : Vals w t.d [.int .i64 t.kind, .string t.name, .string t.of, .int .i64 t.value, .int .i64 t.type.kind, .string t.type.pkg, .string t.type.name, .slice A7 t.type.args.length c7, .slice A8 t.type.res.length c8, .slice A9 t.fields.length c9] := by
  cases t with | mk x0 x1 x2 x3 x4 x5 =>
  cases x4 with | mk y4_0 y4_1 y4_2 y4_3 y4_4 =>
  simp only [Dcl.d, Ty.args, Ty.kind, Ty.name, Ty.pkg, Ty.res]
  exact ⟨_, _, rfl, (dv_num h0), ⟨_, _, rfl, (dv_str h1), ⟨_, _, rfl, (dv_str h2), ⟨_, _, rfl, (dv_num h3), ⟨_, _, rfl, (dv_num h4), ⟨_, _, rfl, (dv_str h5), ⟨_, _, rfl, (dv_str h6), ⟨_, _, rfl, h7.dv, ⟨_, _, rfl, h8.dv, ⟨_, _, rfl, h9.dv, rfl⟩⟩⟩⟩⟩⟩⟩⟩⟩⟩
theorem Dcl.at {w : World} {l : List Dcl} {A : Option Addr} (h : Elems w 10 (Dcl.ds l) A) (k : Nat) (hk : k < l.length) : ∃ b o, A = some ⟨b, o, none⟩ ∧ ∃ A7 c7 A8 c8 A9 c9, w.cell? ⟨b, o + k * 10, none⟩ = some (.int .i64 l[k].kind) ∧ w.cell? ⟨b, o + k * 10 + 1, none⟩ = some (.string l[k].name) ∧ w.cell? ⟨b, o + k * 10 + 2, none⟩ = some (.string l[k].of) ∧ w.cell? ⟨b, o + k * 10 + 3, none⟩ = some (.int .i64 l[k].value) ∧ w.cell? ⟨b, o + k * 10 + 4, none⟩ = some (.int .i64 l[k].type.kind) ∧ w.cell? ⟨b, o + k * 10 + 5, none⟩ = some (.string l[k].type.pkg) ∧ w.cell? ⟨b, o + k * 10 + 6, none⟩ = some (.string l[k].type.name) ∧ w.cell? ⟨b, o + k * 10 + 7, none⟩ = some (.slice A7 l[k].type.args.length c7) ∧ w.cell? ⟨b, o + k * 10 + 8, none⟩ = some (.slice A8 l[k].type.res.length c8) ∧ w.cell? ⟨b, o + k * 10 + 9, none⟩ = some (.slice A9 l[k].fields.length c9) ∧ In64 l[k].kind ∧ l[k].name.size ≤ Reach ∧ l[k].of.size ≤ Reach ∧ In64 l[k].value ∧ In64 l[k].type.kind ∧ l[k].type.pkg.size ≤ Reach ∧ l[k].type.name.size ≤ Reach ∧ SL w 5 (Ty.ds l[k].type.args) l[k].type.args.length A7 c7 ∧ SL w 5 (Ty.ds l[k].type.res) l[k].type.res.length A8 c8 ∧ SL w 6 (Fld.ds l[k].fields) l[k].fields.length A9 c9 := by
  obtain ⟨b, o, hA, hc⟩ := h.at k (by rw [Dcl.ds_length]; exact hk)
  rw [Dcl.ds_get l k hk] at hc
  obtain ⟨vs, hv, hcell⟩ := hc.vals
  obtain ⟨A7, c7, A8, c8, A9, c9, rfl, q0, q1, q2, q3, q4, q5, q6, q7, q8, q9⟩ := Dcl.opn hv
  exact ⟨b, o, hA, A7, c7, A8, c8, A9, c9, by simpa using hcell 0 _ rfl, hcell 1 _ rfl, hcell 2 _ rfl, hcell 3 _ rfl, hcell 4 _ rfl, hcell 5 _ rfl, hcell 6 _ rfl, hcell 7 _ rfl, hcell 8 _ rfl, hcell 9 _ rfl, q0, q1, q2, q3, q4, q5, q6, q7, q8, q9⟩

structure Imp where
  name : ByteArray
  hash : Int
def Imp.d (t : Imp) : List D := [.str t.name, .num t.hash]
def Imp.ds : List Imp → List (List D)
  | [] => []
  | t :: r => t.d :: Imp.ds r
theorem Imp.ds_length : ∀ l : List Imp, (Imp.ds l).length = l.length
  | [] => by simp [Imp.ds]
  | t :: r => by simp [Imp.ds, Imp.ds_length r]
theorem Imp.ds_get : ∀ (l : List Imp) (k : Nat) (h : k < l.length) (h' : k < (Imp.ds l).length), (Imp.ds l)[k] = l[k].d
  | t :: r, 0, _, _ => by simp [Imp.ds]
  | t :: r, k + 1, h, h' => by simp only [Imp.ds, List.getElem_cons_succ]; exact Imp.ds_get r k (by simpa using h) (by simpa [Imp.ds] using h')
theorem Imp.ds_append : ∀ a b : List Imp, Imp.ds (a ++ b) = Imp.ds a ++ Imp.ds b
  | [], b => by simp [Imp.ds]
  | t :: r, b => by simp [Imp.ds, Imp.ds_append r b]
theorem Imp.opn {w : World} {t : Imp} {vs : List Value} (h : Vals w t.d vs) : vs = [.string t.name, .int .i64 t.hash] ∧ t.name.size ≤ Reach ∧ In64 t.hash := by
  simp only [Imp.d] at h
  obtain ⟨v0, r0, rfl, h0, h⟩ := h
  obtain ⟨v1, r1, rfl, h1, h⟩ := h
  obtain rfl := (show r1 = [] from h)
  simp only [DV] at h0
  obtain ⟨rfl, q0⟩ := h0
  simp only [DV] at h1
  obtain ⟨rfl, q1⟩ := h1
  exact ⟨rfl, q0, q1⟩
theorem Imp.shut {w : World} {t : Imp} (h0 : t.name.size ≤ Reach) (h1 : In64 t.hash) : Vals w t.d [.string t.name, .int .i64 t.hash] := by
  simp only [Imp.d]
  exact ⟨_, _, rfl, (dv_str h0), ⟨_, _, rfl, (dv_num h1), rfl⟩⟩
theorem Imp.at {w : World} {l : List Imp} {A : Option Addr} (h : Elems w 2 (Imp.ds l) A) (k : Nat) (hk : k < l.length) : ∃ b o, A = some ⟨b, o, none⟩ ∧ w.cell? ⟨b, o + k * 2, none⟩ = some (.string l[k].name) ∧ w.cell? ⟨b, o + k * 2 + 1, none⟩ = some (.int .i64 l[k].hash) ∧ l[k].name.size ≤ Reach ∧ In64 l[k].hash := by
  obtain ⟨b, o, hA, hc⟩ := h.at k (by rw [Imp.ds_length]; exact hk)
  rw [Imp.ds_get l k hk] at hc
  obtain ⟨vs, hv, hcell⟩ := hc.vals
  obtain ⟨rfl, q0, q1⟩ := Imp.opn hv
  exact ⟨b, o, hA, by simpa using hcell 0 _ rfl, hcell 1 _ rfl, q0, q1⟩

inductive Ex where
  | mk (op : Int) (n : Int) (name : ByteArray) (kids : List Ex)
def Ex.op : Ex → Int
  | .mk x _ _ _ => x
def Ex.n : Ex → Int
  | .mk _ x _ _ => x
def Ex.name : Ex → ByteArray
  | .mk _ _ x _ => x
def Ex.kids : Ex → List Ex
  | .mk _ _ _ x => x
mutual
def Ex.d : Ex → List D
  | .mk x0 x1 x2 x3 => [.num x0, .num x1, .str x2, .lst 4 (Ex.ds x3)]
def Ex.ds : List Ex → List (List D)
  | [] => []
  | t :: r => t.d :: Ex.ds r
end
theorem Ex.ds_length : ∀ l : List Ex, (Ex.ds l).length = l.length
  | [] => by simp [Ex.ds]
  | t :: r => by simp [Ex.ds, Ex.ds_length r]
theorem Ex.ds_get : ∀ (l : List Ex) (k : Nat) (h : k < l.length) (h' : k < (Ex.ds l).length), (Ex.ds l)[k] = l[k].d
  | t :: r, 0, _, _ => by simp [Ex.ds]
  | t :: r, k + 1, h, h' => by simp only [Ex.ds, List.getElem_cons_succ]; exact Ex.ds_get r k (by simpa using h) (by simpa [Ex.ds] using h')
theorem Ex.ds_append : ∀ a b : List Ex, Ex.ds (a ++ b) = Ex.ds a ++ Ex.ds b
  | [], b => by simp [Ex.ds]
  | t :: r, b => by simp [Ex.ds, Ex.ds_append r b]
theorem Ex.opn {w : World} {t : Ex} {vs : List Value} (h : Vals w t.d vs) : ∃ A3 c3, vs = [.int .i64 t.op, .int .i64 t.n, .string t.name, .slice A3 t.kids.length c3] ∧ In64 t.op ∧ In64 t.n ∧ t.name.size ≤ Reach ∧ SL w 4 (Ex.ds t.kids) t.kids.length A3 c3 := by
  cases t with | mk x0 x1 x2 x3 =>
  simp only [Ex.d] at h
  obtain ⟨v0, r0, rfl, h0, h⟩ := h
  obtain ⟨v1, r1, rfl, h1, h⟩ := h
  obtain ⟨v2, r2, rfl, h2, h⟩ := h
  obtain ⟨v3, r3, rfl, h3, h⟩ := h
  obtain rfl := (show r3 = [] from h)
  simp only [DV] at h0
  obtain ⟨rfl, q0⟩ := h0
  simp only [DV] at h1
  obtain ⟨rfl, q1⟩ := h1
  simp only [DV] at h2
  obtain ⟨rfl, q2⟩ := h2
  obtain ⟨A3, c3, rfl, q3⟩ := SL.of h3
  simp only [Ex.ds_length] at q3
  exact ⟨A3, c3, by simp only [Ex.ds_length, Ex.kids, Ex.n, Ex.name, Ex.op], q0, q1, q2, q3⟩
theorem Ex.shut {w : World} {t : Ex} {A3 : Option Addr} {c3 : Nat} (h0 : In64 t.op) (h1 : In64 t.n) (h2 : t.name.size ≤ Reach) (h3 : SL w 4 (Ex.ds t.kids) t.kids.length A3 c3) : Vals w t.d [.int .i64 t.op, .int .i64 t.n, .string t.name, .slice A3 t.kids.length c3] := by
  cases t with | mk x0 x1 x2 x3 =>
  simp only [Ex.d]
  exact ⟨_, _, rfl, (dv_num h0), ⟨_, _, rfl, (dv_num h1), ⟨_, _, rfl, (dv_str h2), ⟨_, _, rfl, h3.dv, rfl⟩⟩⟩⟩
theorem Ex.at {w : World} {l : List Ex} {A : Option Addr} (h : Elems w 4 (Ex.ds l) A) (k : Nat) (hk : k < l.length) : ∃ b o, A = some ⟨b, o, none⟩ ∧ ∃ A3 c3, w.cell? ⟨b, o + k * 4, none⟩ = some (.int .i64 l[k].op) ∧ w.cell? ⟨b, o + k * 4 + 1, none⟩ = some (.int .i64 l[k].n) ∧ w.cell? ⟨b, o + k * 4 + 2, none⟩ = some (.string l[k].name) ∧ w.cell? ⟨b, o + k * 4 + 3, none⟩ = some (.slice A3 l[k].kids.length c3) ∧ In64 l[k].op ∧ In64 l[k].n ∧ l[k].name.size ≤ Reach ∧ SL w 4 (Ex.ds l[k].kids) l[k].kids.length A3 c3 := by
  obtain ⟨b, o, hA, hc⟩ := h.at k (by rw [Ex.ds_length]; exact hk)
  rw [Ex.ds_get l k hk] at hc
  obtain ⟨vs, hv, hcell⟩ := hc.vals
  obtain ⟨A3, c3, rfl, q0, q1, q2, q3⟩ := Ex.opn hv
  exact ⟨b, o, hA, A3, c3, by simpa using hcell 0 _ rfl, hcell 1 _ rfl, hcell 2 _ rfl, hcell 3 _ rfl, q0, q1, q2, q3⟩

inductive St where
  | mk (op : Int) (n : Int) (exprs : List Ex) (body : List St) (els : List St)
def St.op : St → Int
  | .mk x _ _ _ _ => x
def St.n : St → Int
  | .mk _ x _ _ _ => x
def St.exprs : St → List Ex
  | .mk _ _ x _ _ => x
def St.body : St → List St
  | .mk _ _ _ x _ => x
def St.els : St → List St
  | .mk _ _ _ _ x => x
mutual
def St.d : St → List D
  | .mk x0 x1 x2 x3 x4 => [.num x0, .num x1, .lst 4 (Ex.ds x2), .lst 5 (St.ds x3), .lst 5 (St.ds x4)]
def St.ds : List St → List (List D)
  | [] => []
  | t :: r => t.d :: St.ds r
end
theorem St.ds_length : ∀ l : List St, (St.ds l).length = l.length
  | [] => by simp [St.ds]
  | t :: r => by simp [St.ds, St.ds_length r]
theorem St.ds_get : ∀ (l : List St) (k : Nat) (h : k < l.length) (h' : k < (St.ds l).length), (St.ds l)[k] = l[k].d
  | t :: r, 0, _, _ => by simp [St.ds]
  | t :: r, k + 1, h, h' => by simp only [St.ds, List.getElem_cons_succ]; exact St.ds_get r k (by simpa using h) (by simpa [St.ds] using h')
theorem St.ds_append : ∀ a b : List St, St.ds (a ++ b) = St.ds a ++ St.ds b
  | [], b => by simp [St.ds]
  | t :: r, b => by simp [St.ds, St.ds_append r b]
theorem St.opn {w : World} {t : St} {vs : List Value} (h : Vals w t.d vs) : ∃ A2 c2 A3 c3 A4 c4, vs = [.int .i64 t.op, .int .i64 t.n, .slice A2 t.exprs.length c2, .slice A3 t.body.length c3, .slice A4 t.els.length c4] ∧ In64 t.op ∧ In64 t.n ∧ SL w 4 (Ex.ds t.exprs) t.exprs.length A2 c2 ∧ SL w 5 (St.ds t.body) t.body.length A3 c3 ∧ SL w 5 (St.ds t.els) t.els.length A4 c4 := by
  cases t with | mk x0 x1 x2 x3 x4 =>
  simp only [St.d] at h
  obtain ⟨v0, r0, rfl, h0, h⟩ := h
  obtain ⟨v1, r1, rfl, h1, h⟩ := h
  obtain ⟨v2, r2, rfl, h2, h⟩ := h
  obtain ⟨v3, r3, rfl, h3, h⟩ := h
  obtain ⟨v4, r4, rfl, h4, h⟩ := h
  obtain rfl := (show r4 = [] from h)
  simp only [DV] at h0
  obtain ⟨rfl, q0⟩ := h0
  simp only [DV] at h1
  obtain ⟨rfl, q1⟩ := h1
  obtain ⟨A2, c2, rfl, q2⟩ := SL.of h2
  simp only [Ex.ds_length] at q2
  obtain ⟨A3, c3, rfl, q3⟩ := SL.of h3
  simp only [St.ds_length] at q3
  obtain ⟨A4, c4, rfl, q4⟩ := SL.of h4
  simp only [St.ds_length] at q4
  exact ⟨A2, c2, A3, c3, A4, c4, by simp only [Ex.ds_length, St.ds_length, St.body, St.els, St.exprs, St.n, St.op], q0, q1, q2, q3, q4⟩
theorem St.shut {w : World} {t : St} {A2 : Option Addr} {c2 : Nat} {A3 : Option Addr} {c3 : Nat} {A4 : Option Addr} {c4 : Nat} (h0 : In64 t.op) (h1 : In64 t.n) (h2 : SL w 4 (Ex.ds t.exprs) t.exprs.length A2 c2) (h3 : SL w 5 (St.ds t.body) t.body.length A3 c3) (h4 : SL w 5 (St.ds t.els) t.els.length A4 c4) : Vals w t.d [.int .i64 t.op, .int .i64 t.n, .slice A2 t.exprs.length c2, .slice A3 t.body.length c3, .slice A4 t.els.length c4] := by
  cases t with | mk x0 x1 x2 x3 x4 =>
  simp only [St.d]
  exact ⟨_, _, rfl, (dv_num h0), ⟨_, _, rfl, (dv_num h1), ⟨_, _, rfl, h2.dv, ⟨_, _, rfl, h3.dv, ⟨_, _, rfl, h4.dv, rfl⟩⟩⟩⟩⟩
theorem St.at {w : World} {l : List St} {A : Option Addr} (h : Elems w 5 (St.ds l) A) (k : Nat) (hk : k < l.length) : ∃ b o, A = some ⟨b, o, none⟩ ∧ ∃ A2 c2 A3 c3 A4 c4, w.cell? ⟨b, o + k * 5, none⟩ = some (.int .i64 l[k].op) ∧ w.cell? ⟨b, o + k * 5 + 1, none⟩ = some (.int .i64 l[k].n) ∧ w.cell? ⟨b, o + k * 5 + 2, none⟩ = some (.slice A2 l[k].exprs.length c2) ∧ w.cell? ⟨b, o + k * 5 + 3, none⟩ = some (.slice A3 l[k].body.length c3) ∧ w.cell? ⟨b, o + k * 5 + 4, none⟩ = some (.slice A4 l[k].els.length c4) ∧ In64 l[k].op ∧ In64 l[k].n ∧ SL w 4 (Ex.ds l[k].exprs) l[k].exprs.length A2 c2 ∧ SL w 5 (St.ds l[k].body) l[k].body.length A3 c3 ∧ SL w 5 (St.ds l[k].els) l[k].els.length A4 c4 := by
  obtain ⟨b, o, hA, hc⟩ := h.at k (by rw [St.ds_length]; exact hk)
  rw [St.ds_get l k hk] at hc
  obtain ⟨vs, hv, hcell⟩ := hc.vals
  obtain ⟨A2, c2, A3, c3, A4, c4, rfl, q0, q1, q2, q3, q4⟩ := St.opn hv
  exact ⟨b, o, hA, A2, c2, A3, c3, A4, c4, by simpa using hcell 0 _ rfl, hcell 1 _ rfl, hcell 2 _ rfl, hcell 3 _ rfl, hcell 4 _ rfl, q0, q1, q2, q3, q4⟩

structure Fn where
  name : ByteArray
  weak : Bool
  params : Int
  locals : Int
  body : List St
def Fn.d (t : Fn) : List D := [.str t.name, .boo t.weak, .num t.params, .num t.locals, .lst 5 (St.ds t.body)]
def Fn.ds : List Fn → List (List D)
  | [] => []
  | t :: r => t.d :: Fn.ds r
theorem Fn.ds_length : ∀ l : List Fn, (Fn.ds l).length = l.length
  | [] => by simp [Fn.ds]
  | t :: r => by simp [Fn.ds, Fn.ds_length r]
theorem Fn.ds_get : ∀ (l : List Fn) (k : Nat) (h : k < l.length) (h' : k < (Fn.ds l).length), (Fn.ds l)[k] = l[k].d
  | t :: r, 0, _, _ => by simp [Fn.ds]
  | t :: r, k + 1, h, h' => by simp only [Fn.ds, List.getElem_cons_succ]; exact Fn.ds_get r k (by simpa using h) (by simpa [Fn.ds] using h')
theorem Fn.ds_append : ∀ a b : List Fn, Fn.ds (a ++ b) = Fn.ds a ++ Fn.ds b
  | [], b => by simp [Fn.ds]
  | t :: r, b => by simp [Fn.ds, Fn.ds_append r b]
theorem Fn.opn {w : World} {t : Fn} {vs : List Value} (h : Vals w t.d vs) : ∃ A4 c4, vs = [.string t.name, .bool t.weak, .int .i64 t.params, .int .i64 t.locals, .slice A4 t.body.length c4] ∧ t.name.size ≤ Reach ∧ In64 t.params ∧ In64 t.locals ∧ SL w 5 (St.ds t.body) t.body.length A4 c4 := by
  simp only [Fn.d] at h
  obtain ⟨v0, r0, rfl, h0, h⟩ := h
  obtain ⟨v1, r1, rfl, h1, h⟩ := h
  obtain ⟨v2, r2, rfl, h2, h⟩ := h
  obtain ⟨v3, r3, rfl, h3, h⟩ := h
  obtain ⟨v4, r4, rfl, h4, h⟩ := h
  obtain rfl := (show r4 = [] from h)
  simp only [DV] at h0
  obtain ⟨rfl, q0⟩ := h0
  simp only [DV] at h1
  subst h1
  simp only [DV] at h2
  obtain ⟨rfl, q2⟩ := h2
  simp only [DV] at h3
  obtain ⟨rfl, q3⟩ := h3
  obtain ⟨A4, c4, rfl, q4⟩ := SL.of h4
  simp only [St.ds_length] at q4
  exact ⟨A4, c4, by simp only [St.ds_length], q0, q2, q3, q4⟩
theorem Fn.shut {w : World} {t : Fn} {A4 : Option Addr} {c4 : Nat} (h0 : t.name.size ≤ Reach) (h2 : In64 t.params) (h3 : In64 t.locals) (h4 : SL w 5 (St.ds t.body) t.body.length A4 c4) : Vals w t.d [.string t.name, .bool t.weak, .int .i64 t.params, .int .i64 t.locals, .slice A4 t.body.length c4] := by
  simp only [Fn.d]
  exact ⟨_, _, rfl, (dv_str h0), ⟨_, _, rfl, (dv_boo _ _), ⟨_, _, rfl, (dv_num h2), ⟨_, _, rfl, (dv_num h3), ⟨_, _, rfl, h4.dv, rfl⟩⟩⟩⟩⟩
theorem Fn.at {w : World} {l : List Fn} {A : Option Addr} (h : Elems w 5 (Fn.ds l) A) (k : Nat) (hk : k < l.length) : ∃ b o, A = some ⟨b, o, none⟩ ∧ ∃ A4 c4, w.cell? ⟨b, o + k * 5, none⟩ = some (.string l[k].name) ∧ w.cell? ⟨b, o + k * 5 + 1, none⟩ = some (.bool l[k].weak) ∧ w.cell? ⟨b, o + k * 5 + 2, none⟩ = some (.int .i64 l[k].params) ∧ w.cell? ⟨b, o + k * 5 + 3, none⟩ = some (.int .i64 l[k].locals) ∧ w.cell? ⟨b, o + k * 5 + 4, none⟩ = some (.slice A4 l[k].body.length c4) ∧ l[k].name.size ≤ Reach ∧ In64 l[k].params ∧ In64 l[k].locals ∧ SL w 5 (St.ds l[k].body) l[k].body.length A4 c4 := by
  obtain ⟨b, o, hA, hc⟩ := h.at k (by rw [Fn.ds_length]; exact hk)
  rw [Fn.ds_get l k hk] at hc
  obtain ⟨vs, hv, hcell⟩ := hc.vals
  obtain ⟨A4, c4, rfl, q0, q2, q3, q4⟩ := Fn.opn hv
  exact ⟨b, o, hA, A4, c4, by simpa using hcell 0 _ rfl, hcell 1 _ rfl, hcell 2 _ rfl, hcell 3 _ rfl, hcell 4 _ rfl, q0, q2, q3, q4⟩

structure Un where
  pkg : ByteArray
  imports : List Imp
  decls : List Dcl
  bodies : List Fn
def Un.d (t : Un) : List D := [.str t.pkg, .lst 2 (Imp.ds t.imports), .lst 10 (Dcl.ds t.decls), .lst 5 (Fn.ds t.bodies)]
def Un.ds : List Un → List (List D)
  | [] => []
  | t :: r => t.d :: Un.ds r
theorem Un.ds_length : ∀ l : List Un, (Un.ds l).length = l.length
  | [] => by simp [Un.ds]
  | t :: r => by simp [Un.ds, Un.ds_length r]
theorem Un.ds_get : ∀ (l : List Un) (k : Nat) (h : k < l.length) (h' : k < (Un.ds l).length), (Un.ds l)[k] = l[k].d
  | t :: r, 0, _, _ => by simp [Un.ds]
  | t :: r, k + 1, h, h' => by simp only [Un.ds, List.getElem_cons_succ]; exact Un.ds_get r k (by simpa using h) (by simpa [Un.ds] using h')
theorem Un.ds_append : ∀ a b : List Un, Un.ds (a ++ b) = Un.ds a ++ Un.ds b
  | [], b => by simp [Un.ds]
  | t :: r, b => by simp [Un.ds, Un.ds_append r b]
theorem Un.opn {w : World} {t : Un} {vs : List Value} (h : Vals w t.d vs) : ∃ A1 c1 A2 c2 A3 c3, vs = [.string t.pkg, .slice A1 t.imports.length c1, .slice A2 t.decls.length c2, .slice A3 t.bodies.length c3] ∧ t.pkg.size ≤ Reach ∧ SL w 2 (Imp.ds t.imports) t.imports.length A1 c1 ∧ SL w 10 (Dcl.ds t.decls) t.decls.length A2 c2 ∧ SL w 5 (Fn.ds t.bodies) t.bodies.length A3 c3 := by
  simp only [Un.d] at h
  obtain ⟨v0, r0, rfl, h0, h⟩ := h
  obtain ⟨v1, r1, rfl, h1, h⟩ := h
  obtain ⟨v2, r2, rfl, h2, h⟩ := h
  obtain ⟨v3, r3, rfl, h3, h⟩ := h
  obtain rfl := (show r3 = [] from h)
  simp only [DV] at h0
  obtain ⟨rfl, q0⟩ := h0
  obtain ⟨A1, c1, rfl, q1⟩ := SL.of h1
  simp only [Imp.ds_length] at q1
  obtain ⟨A2, c2, rfl, q2⟩ := SL.of h2
  simp only [Dcl.ds_length] at q2
  obtain ⟨A3, c3, rfl, q3⟩ := SL.of h3
  simp only [Fn.ds_length] at q3
  exact ⟨A1, c1, A2, c2, A3, c3, by simp only [Dcl.ds_length, Fn.ds_length, Imp.ds_length], q0, q1, q2, q3⟩
theorem Un.shut {w : World} {t : Un} {A1 : Option Addr} {c1 : Nat} {A2 : Option Addr} {c2 : Nat} {A3 : Option Addr} {c3 : Nat} (h0 : t.pkg.size ≤ Reach) (h1 : SL w 2 (Imp.ds t.imports) t.imports.length A1 c1) (h2 : SL w 10 (Dcl.ds t.decls) t.decls.length A2 c2) (h3 : SL w 5 (Fn.ds t.bodies) t.bodies.length A3 c3) : Vals w t.d [.string t.pkg, .slice A1 t.imports.length c1, .slice A2 t.decls.length c2, .slice A3 t.bodies.length c3] := by
  simp only [Un.d]
  exact ⟨_, _, rfl, (dv_str h0), ⟨_, _, rfl, h1.dv, ⟨_, _, rfl, h2.dv, ⟨_, _, rfl, h3.dv, rfl⟩⟩⟩⟩
theorem Un.at {w : World} {l : List Un} {A : Option Addr} (h : Elems w 4 (Un.ds l) A) (k : Nat) (hk : k < l.length) : ∃ b o, A = some ⟨b, o, none⟩ ∧ ∃ A1 c1 A2 c2 A3 c3, w.cell? ⟨b, o + k * 4, none⟩ = some (.string l[k].pkg) ∧ w.cell? ⟨b, o + k * 4 + 1, none⟩ = some (.slice A1 l[k].imports.length c1) ∧ w.cell? ⟨b, o + k * 4 + 2, none⟩ = some (.slice A2 l[k].decls.length c2) ∧ w.cell? ⟨b, o + k * 4 + 3, none⟩ = some (.slice A3 l[k].bodies.length c3) ∧ l[k].pkg.size ≤ Reach ∧ SL w 2 (Imp.ds l[k].imports) l[k].imports.length A1 c1 ∧ SL w 10 (Dcl.ds l[k].decls) l[k].decls.length A2 c2 ∧ SL w 5 (Fn.ds l[k].bodies) l[k].bodies.length A3 c3 := by
  obtain ⟨b, o, hA, hc⟩ := h.at k (by rw [Un.ds_length]; exact hk)
  rw [Un.ds_get l k hk] at hc
  obtain ⟨vs, hv, hcell⟩ := hc.vals
  obtain ⟨A1, c1, A2, c2, A3, c3, rfl, q0, q1, q2, q3⟩ := Un.opn hv
  exact ⟨b, o, hA, A1, c1, A2, c2, A3, c3, by simpa using hcell 0 _ rfl, hcell 1 _ rfl, hcell 2 _ rfl, hcell 3 _ rfl, q0, q1, q2, q3⟩

end Go.Proofs.Ytiecbgclkdlpkaa
