/-
  The walk of slices.Clone over fields: a list again, in a row of the call's own. The condition: what is handed in reads; it is not too long.
-/
import Derived.Test.YtiecbgclkdlpkaaKMethA
namespace Go.Proofs.Ytiecbgclkdlpkaa
open Go.RowKit
set_option linter.unusedVariables false
set_option linter.unusedSimpArgs false

/-- append of m structs to a row of the call's own. -/
theorem wpList_append_many {P : Program} (w : World) {ops : Array Oper} {rest : List Oper} {o : Oper} {a : Act} {Q : Exit → Act → World → Prop} (hgd : o.guard = none) (sl x : Operand) (t : TypeId)
    (ho : o.op = .call { callee := .builtin .append, args := #[sl, x], argTypes := #[t, t] })
    (base : Nat) (e : TypeId) (z : Value) (size bytes : Nat) (hinfo : (P.info? e).map (fun i => (i.zero, i.size, i.bytes)) = some (some z, size, bytes)) (ht : P.underlying t = some (.slice e)) (hzs : z.cells.size = size) (hsz : 0 < size)
    (v : Value) (n : Nat) (xs : List Value) (hs : a.eval sl = v) (hown : w.ownsRow base e size v n xs) (ad : Addr) (m c : Nat) (news : List Value) (hx : a.eval x = .slice (some ad) m c) (hl : news.length = m * size)
    (hnews : ∀ j u, news[j]? = some u → w.cell? (ad.add j) = some u) (h1 : ∀ u ∈ news, u.oneCell' = true)
    (hbytes : (n + m) * bytes ≤ 140737488355328) (hn : n + m ≤ maxLen) (hbase : base ≤ w.heap.size)
    (h : ∀ v' w', w'.ownsRow base e size v' (n + m) (xs ++ news) → w.grownBy w' v.ownBlock → (v'.ownBlock = v.ownBlock ∨ v'.ownBlock = some w.heap.size) → wpList P ops Q rest (a.put o.dst v') w') : wpList P ops Q (o :: rest) a w := by
  obtain ⟨i, hi, hz, hsize, hby⟩ : ∃ i, P.info? e = some i ∧ i.zero = some z ∧ i.size = size ∧ i.bytes = bytes := by
    cases hi : P.info? e with
    | none => rw [hi] at hinfo; cases hinfo
    | some i =>
      rw [hi] at hinfo
      simp only [Option.map_some, Option.some.injEq, Prod.mk.injEq] at hinfo
      exact ⟨i, rfl, hinfo.1, hinfo.2.1, hinfo.2.2⟩
  refine Go.wpList_append_own_at (P := P) w hgd sl x t ho base e i z size bytes ht hi hz hsize hby hzs hsz v n xs hs hown ad m c news hx hl hnews h1 hn hbytes hbase (fun v' w' h1 h2 _ h4 => h v' w' h1 h2 h4)

theorem readV_of {v : World} {l : List Fld} {n : Nat} {A : Option Addr} {c : Nat} (h : SL v 6 (Fld.ds l) n A c) : ∃ V, ReadV v l V ∧ ∀ b o, A = some ⟨b, o, none⟩ → ∀ i, i < l.length → ∀ j, j < 6 → v.cell? ⟨b, o + i * 6 + j, none⟩ = some (V.at i j) := by
  have hc : ∀ i, ∃ x : Option Addr × Nat × Option Addr × Nat, ∀ hi : i < l.length, Vals v l[i].d [.string l[i].name, .int .i64 l[i].type.kind, .string l[i].type.pkg, .string l[i].type.name, .slice x.1 l[i].type.args.length x.2.1, .slice x.2.2.1 l[i].type.res.length x.2.2.2] ∧
      ∀ b o, A = some ⟨b, o, none⟩ → ∀ j u, ([.string l[i].name, .int .i64 l[i].type.kind, .string l[i].type.pkg, .string l[i].type.name, .slice x.1 l[i].type.args.length x.2.1, .slice x.2.2.1 l[i].type.res.length x.2.2.2] : List Value)[j]? = some u → v.cell? ⟨b, o + i * 6 + j, none⟩ = some u := fun i => by
    by_cases hi : i < l.length
    · obtain ⟨b, o, hA, A4, c4, A5, c5, e0, e1, e2, e3, e4, e5, q0, q1, q2, q3, q4, q5⟩ := Fld.at h.2.2.2 i hi
      refine ⟨(A4, c4, A5, c5), fun _ => ⟨Fld.shut q0 q1 q2 q3 q4 q5, fun b' o' hA' j u hu => ?_⟩⟩
      rw [hA] at hA'
      injection hA' with hA'
      injection hA' with hb ho
      subst hb ho
      have hj : j < 6 := by have := (List.getElem?_eq_some_iff.1 hu).1; simpa using this
      rcases (by omega : j = 0 ∨ j = 1 ∨ j = 2 ∨ j = 3 ∨ j = 4 ∨ j = 5) with rfl | rfl | rfl | rfl | rfl | rfl <;> simp at hu <;> subst hu <;> assumption
    · exact ⟨(none, 0, none, 0), fun h => absurd h hi⟩
  obtain ⟨x, hx⟩ := Classical.axiomOfChoice hc
  obtain ⟨V, hVd⟩ : ∃ V : Cel, V = ⟨fun i => nameAt l i, fun i => (l.getD i fld0).type.kind, fun i => (l.getD i fld0).type.pkg, fun i => (l.getD i fld0).type.name, fun i => (x i).1, fun i => (l.getD i fld0).type.args.length, fun i => (x i).2.1, fun i => (x i).2.2.1, fun i => (l.getD i fld0).type.res.length, fun i => (x i).2.2.2⟩ := ⟨_, rfl⟩
  have hat : ∀ i (hi : i < l.length), V.cells i = [.string l[i].name, .int .i64 l[i].type.kind, .string l[i].type.pkg, .string l[i].type.name, .slice (x i).1 l[i].type.args.length (x i).2.1, .slice (x i).2.2.1 l[i].type.res.length (x i).2.2.2] := fun i hi => by
    rw [hVd]
    simp only [Cel.cells, nameAt, List.getD_eq_getElem?_getD, List.getElem?_eq_getElem hi, Option.getD_some]
  refine ⟨V, fun i hi => ?_, fun b o hA i hi j hj => ?_⟩
  · rw [hat i hi]; exact (hx i hi).1
  · exact (hx i hi).2 b o hA j _ (by rw [← hat i hi]; exact Cel.cells_at _ i j hj)
theorem addr_add (b o k : Nat) : (⟨b, o, none⟩ : Addr).add k = ⟨b, o + k, none⟩ := by unfold Addr.add; split <;> simp_all
/-- The cells of n elements behind one another. -/
def rowV (V : Cel) (n : Nat) : List Value := ((List.range n).map V.cells).flatten
theorem rowV_at (V : Cel) (n : Nat) {i j : Nat} (hi : i < n) (hj : j < 6) : (rowV V n)[i * 6 + j]? = some (V.at i j) := by
  refine flat_at (size := 6) ((List.range n).map V.cells) (fun s hs => ?_) i (by simpa using hi) j _ ?_ hj
  · rw [List.mem_map] at hs
    obtain ⟨k, _, rfl⟩ := hs; rfl
  · rw [List.getElem_map, List.getElem_range]; exact V.cells_at i j hj
theorem rowV_length (V : Cel) (n : Nat) : (rowV V n).length = n * 6 := by
  unfold rowV
  induction n with
  | zero => rfl
  | succ n ih =>
    rw [List.range_succ, List.map_append, List.flatten_append, List.length_append, ih]
    simp [Cel.cells]; omega
theorem rowV_one (V : Cel) (n : Nat) : ∀ u ∈ rowV V n, u.oneCell' = true := fun u hu => by
  unfold rowV at hu
  rw [List.mem_flatten] at hu
  obtain ⟨s, hs, hu⟩ := hu
  rw [List.mem_map] at hs
  obtain ⟨k, _, rfl⟩ := hs
  simp [Cel.cells] at hu
  rcases hu with rfl | rfl | rfl | rfl | rfl | rfl <;> rfl
theorem rowV_get (V : Cel) (n : Nat) {j : Nat} {u : Value} (h : (rowV V n)[j]? = some u) : j / 6 < n ∧ u = V.at (j / 6) (j % 6) := by
  have hl := (List.getElem?_eq_some_iff.1 h).1
  rw [rowV_length] at hl
  have h1 : j / 6 < n := by omega
  have h2 := rowV_at V n h1 (show j % 6 < 6 by omega)
  rw [show j / 6 * 6 + j % 6 = j by omega, h] at h2
  injection h2 with h2
  exact ⟨h1, h2⟩

set_option maxRecDepth 100000 in
set_option maxHeartbeats 3200000 in
theorem clone_any (v w : World) (hvw : Below v.heap.size v w) (l : List Fld) (A : Option Addr) (c : Nat) (hl : SL v 6 (Fld.ds l) l.length A c) (hn : l.length ≤ 1000000) :
    Calls Try.prog 58 #[.slice A l.length c] w (fun e w' => ∃ u V, e = .returned u ∧ OwnS w' w.heap.size u l.length V id ∧ ReadV v l V ∧ Below w.heap.size w w') := by
  obtain ⟨V, hV, hcell⟩ := readV_of hl
  have heq : ∀ w : World, (binOp .eql 23 (.slice A l.length c) (.slice none 0 0)).run Try.prog w = .ok (.bool A.isNone) w := fun w => Lib.run_eql_slice_nil w _ _ A l.length c 0 0 Try.underlying23
  have HV := Lib.hid hV
  cases A with
  | none =>
    have hz : l = [] := by
      cases l with
      | nil => rfl
      | cons a r =>
        have := hl.2.2.2
        simp only [Fld.ds, Elems] at this
        obtain ⟨b, o, h, _⟩ := this
        cases h
    subst hz
    clear hl hcell hV
    have heq : ∀ w : World, (binOp .eql 23 (.slice none 0 c) (.slice none 0 0)).run Try.prog w = .ok (.bool true) w := heq
    go_enter Try.func58, Try.ntmps58
    go_wp2_with fail
    exact bodyPost_ret (results_tmp rfl _ _ _) rfl ⟨_, V, rfl, OwnS.nil _ _ _ _, HV.out, Below.refl _ _⟩
  | some ad =>
    have heq : ∀ w : World, (binOp .eql 23 (.slice (some ad) l.length c) (.slice none 0 0)).run Try.prog w = .ok (.bool false) w := heq
    have HB := Lib.hid (show Below w.heap.size w (w.alloc (.cells #[] 56)) from (Below.refl w.heap.size w).alloc (Nat.le_refl _) _)
    have HNW := Lib.hid (show ∀ j u, (rowV V l.length)[j]? = some u → (w.alloc (.cells #[] 56)).cell? (ad.add j) = some u from fun j u hu => by
      obtain ⟨h1, h2⟩ := rowV_get V l.length hu
      obtain ⟨b, o, hA, _⟩ := Fld.at hl.2.2.2 (j / 6) h1
      injection hA with hA
      subst hA
      have := hcell b o rfl (j / 6) h1 (j % 6) (by omega)
      rw [addr_add, h2, ← show o + j / 6 * 6 + j % 6 = o + j by omega]
      exact Below.sub HB.out _ _ (Below.sub hvw _ _ this))
    have HOW := Lib.hid (show (w.alloc (.cells #[] 56)).ownsRow w.heap.size 56 6 (.slice (some ⟨w.heap.size, 0, none⟩) 0 0) 0 [] from ⟨rfl, .inr ⟨w.heap.size, 0, #[], rfl, Nat.le_refl _, alloc_at w _, Nat.le_refl _, Nat.zero_le _, rfl, rfl⟩⟩)
    have HLN := Lib.hid (show (0 + l.length) * 104 ≤ 140737488355328 by omega)
    have HLM := Lib.hid (show 0 + l.length ≤ maxLen by unfold maxLen; omega)
    have HLE := Lib.hid (rowV_length V l.length); have HO1 := Lib.hid (rowV_one V l.length)
    clear hl hcell hV hn
    go_enter Try.func58, Try.ntmps58
    go_wp2_with (at_builtin; go_loud (refine wpList_append_many _ rfl _ _ 23 rfl w.heap.size 56 (.agg #[.string ⟨#[]⟩, .int .i64 0, .string ⟨#[]⟩, .string ⟨#[]⟩, .slice none 0 0, .slice none 0 0]) 6 104 Try.infnFld Try.underlying23 rfl (by omega) (.slice (some ⟨w.heap.size, 0, none⟩) 0 0) 0 [] rfl HOW.out ad l.length c (rowV V l.length) rfl HLE.out HNW.out HO1.out HLN.out HLM.out (by simp) ?_; intro v1 w3 h1 g1 r1; have HOV := Lib.hid h1; have HGB := Lib.hid g1; clear h1 g1 r1))
    have HOV2 := Lib.hid (show OwnS w3 w.heap.size v1 l.length V id by
      have h := HOV.out
      rw [Nat.zero_add, List.nil_append] at h
      exact ⟨_, h, fun i hi j hj => rowV_at V l.length hi hj⟩)
    have HBF := Lib.hid (show Below w.heap.size w w3 from Below.chg HB.out ((Chg.refl (fun k => k = w.heap.size) _).grown HGB.out (fun k _ e => by simp [Value.ownBlock] at e; exact e.symm)) HB.out.size (fun i hi => by omega))
    refine bodyPost_ret (results_tmp rfl _ _ _) rfl ⟨v1, V, rfl, HOV2.out, HV.out, HBF.out⟩
end Go.Proofs.Ytiecbgclkdlpkaa
