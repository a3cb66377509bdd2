/-
  The walk of KindsBack. The condition: what is handed in reads.
-/
import Derived.Test.YtiecbgclkdlpkaaKBackLaw
import Derived.Test.YtiecbgclkdlpkaaKGreat
import Derived.Test.YtiecbgclkdlpkaaKSame
import Derived.Test.YtiecbgclkdlpkaaKPut
namespace Go.Proofs.Ytiecbgclkdlpkaa
open Go.RowKit
set_option linter.unusedVariables false
set_option linter.unusedSimpArgs false
attribute [local irreducible] wpStill wpOrd wpT

/-- The world without some blocks. -/
def HidW (S : Nat → Bool) (w : World) : World := { w with heap := w.heap.mapIdx fun i o => if S i = true then .cells #[] 0 (0, 0) else o }
theorem hid_cell (S : Nat → Bool) (w : World) (a : Addr) (v : Value) : (HidW S w).cell? a = some v ↔ (S a.block = false ∧ w.cell? a = some v) := by
  unfold World.cell? HidW
  simp only [Array.getElem?_mapIdx]
  cases h : w.heap[a.block]? with
  | none => simp
  | some o =>
    simp only [Option.map_some]
    cases hc : S a.block with
    | true => rw [if_pos rfl]; simp
    | false => rw [if_neg (by simp)]; simp
theorem hid_heap {S : Nat → Bool} {w : World} {b : Nat} (h : S b = false) : (HidW S w).heap[b]? = w.heap[b]? := by
  unfold HidW
  simp only [Array.getElem?_mapIdx]
  cases w.heap[b]? with
  | none => rfl
  | some o => simp [h]
theorem hid_sub (S : Nat → Bool) (w : World) : Sub (HidW S w) w := fun a v h => ((hid_cell S w a v).1 h).2
theorem hid_chg {S' : Nat → Prop} {S : Nat → Bool} {w w' : World} (h : Chg S' w w') (hS : ∀ k, S' k → S k = true) : Sub (HidW S w) (HidW S w') := fun a v q => by
  obtain ⟨h1, h2⟩ := (hid_cell _ _ _ _).1 q
  exact (hid_cell _ _ _ _).2 ⟨h1, h.cell h2 (fun hs => by rw [hS _ hs] at h1; cases h1)⟩
theorem hid_old {S : Nat → Bool} {w w' : World} (h : Below w.heap.size w w') (hS : ∀ k, S k = true → w.heap.size ≤ k) : Sub w (HidW S w') := fun a v q => by
  refine (hid_cell _ _ _ _).2 ⟨?_, Below.sub h _ _ q⟩
  cases hc : S a.block with
  | false => rfl
  | true => exact absurd (World.block_lt_of_cell? w (a := a) q) (by have := hS _ hc; omega)
set_option maxRecDepth 100000 in
set_option maxHeartbeats 3200000 in
theorem kindsBack_any (w : World) (s : ByteArray) (t : Ty) (d : Nat) (hd : d < 256) (vs : List Value) (hv : Vals w t.d vs) (hs : s.size ≤ Reach) : Calls Try.prog 9 #[.string s, .agg vs.toArray, .int .u8 d] w (Ans w (.bool true)) := by
  obtain ⟨A3, c3, A4, c4, rfl, q0, q1, q2, q3, q4⟩ := Ty.opn hv
  have HV := Lib.hid hv
  have HS := Lib.hid hs
  clear hv hs q0 q1 q2 q3 q4
  have HB := Lib.hid (show Below w.heap.size w ((w.alloc (.cells #[.int .i64 t.kind, .string t.pkg, .string t.name, .slice A3 t.args.length c3, .slice A4 t.res.length c4] 26)).alloc (.cells #[.int .i64 t.kind, .string t.pkg, .string t.name, .slice A3 t.args.length c3, .slice A4 t.res.length c4] 26)) from ((Below.refl w.heap.size w).alloc (Nat.le_refl _) _).alloc (by simp) _)
  have HBK := Lib.hid (allocs_at [.cells #[.int .i64 t.kind, .string t.pkg, .string t.name, .slice A3 t.args.length c3, .slice A4 t.res.length c4] 26, .cells #[.int .i64 t.kind, .string t.pkg, .string t.name, .slice A3 t.args.length c3, .slice A4 t.res.length c4] 26] w 0 (by simp))
  have HG := Lib.hid (sl_one (allocs_at [.cells #[.int .i64 t.kind, .string t.pkg, .string t.name, .slice A3 t.args.length c3, .slice A4 t.res.length c4] 26, .cells #[.int .i64 t.kind, .string t.pkg, .string t.name, .slice A3 t.args.length c3, .slice A4 t.res.length c4] 26] w 1 (by simp)) (HV.out.sub (Below.sub HB.out)))
  go_enter Try.func9, Try.ntmps9
  go_wp2_with fail
  refine (great_any _ [t] _ _ HG.out).mono ?_
  rintro e w1 ⟨g, rfl, hg, hb⟩
  have HB1 := Lib.hid (HB.out.trans (hb.mono HB.out.size))
  have HBK1 := Lib.hid ((hb.block _ (lt_of_block HBK.out)).trans HBK.out)
  clear hb
  cases g with
  | true =>
    go_wp2_with fail
    refine (awake_any w1).mono ?_
    rintro e w2 ⟨rfl, hb⟩
    have HB2 := Lib.hid (HB1.out.trans (hb.mono HB1.out.size)); clear hb
    go_wp2_with fail
    exact bodyPost_ret (results_tmp rfl _ _ _) rfl ⟨rfl, HB2.out⟩
  | false =>
    have HSZ := Lib.hid (hg rfl)
    clear hg
    have HBK2 := Lib.hid (show (w1.alloc (.cells #[.int .i64 9, .string ⟨#[]⟩, .string s, .slice none 0 0, .slice none 0 0] 26)).heap[w.heap.size]? = some (.cells #[.int .i64 t.kind, .string t.pkg, .string t.name, .slice A3 t.args.length c3, .slice A4 t.res.length c4] 26 (0, 0)) from alloc_old HBK1.out _)
    have v0 : (w1.alloc (.cells #[.int .i64 9, .string ⟨#[]⟩, .string s, .slice none 0 0, .slice none 0 0] 26)).cell? ⟨w.heap.size, 0, none⟩ = some (.int .i64 t.kind) := (cell_at HBK2.out 0).trans rfl
    have v1 : (w1.alloc (.cells #[.int .i64 9, .string ⟨#[]⟩, .string s, .slice none 0 0, .slice none 0 0] 26)).cell? ⟨w.heap.size, 1, none⟩ = some (.string t.pkg) := (cell_at HBK2.out 1).trans rfl
    have v2 : (w1.alloc (.cells #[.int .i64 9, .string ⟨#[]⟩, .string s, .slice none 0 0, .slice none 0 0] 26)).cell? ⟨w.heap.size, 2, none⟩ = some (.string t.name) := (cell_at HBK2.out 2).trans rfl
    have v3 : (w1.alloc (.cells #[.int .i64 9, .string ⟨#[]⟩, .string s, .slice none 0 0, .slice none 0 0] 26)).cell? ⟨w.heap.size, 3, none⟩ = some (.slice A3 t.args.length c3) := (cell_at HBK2.out 3).trans rfl
    have v4 : (w1.alloc (.cells #[.int .i64 9, .string ⟨#[]⟩, .string s, .slice none 0 0, .slice none 0 0] 26)).cell? ⟨w.heap.size, 4, none⟩ = some (.slice A4 t.res.length c4) := (cell_at HBK2.out 4).trans rfl
    have hdm : ∃ m : Nat, m < 20 ∧ ((d : Int) % 20) = m := ⟨d % 20, by omega, by omega⟩
    obtain ⟨m, hm, hdm⟩ := hdm
    go_wp2_with fail
    obtain ⟨S, hS⟩ : ∃ S : Nat → Bool, S = fun k => decide (k = w1.heap.size ∨ k = w1.heap.size + 1) := ⟨_, rfl⟩
    have HSS := Lib.hid hS
    clear hS
    go_loopw [9] (fun i wr => ∃ (k : Nat) (B3 B4 D3 D4 : Option Addr) (x3 x4 y3 y4 : Nat), k ≤ m ∧ i = .int .i64 k ∧
      wr.heap[w1.heap.size]? = some (.cells #[.int .i64 (wrapN k (varT s)).kind, .string (wrapN k (varT s)).pkg, .string (wrapN k (varT s)).name, .slice B3 (wrapN k (varT s)).args.length x3, .slice B4 (wrapN k (varT s)).res.length x4] 26 (0, 0)) ∧
      wr.heap[w1.heap.size + 1]? = some (.cells #[.int .i64 (wrapN k t).kind, .string (wrapN k t).pkg, .string (wrapN k t).name, .slice D3 (wrapN k t).args.length y3, .slice D4 (wrapN k t).res.length y4] 26 (0, 0)) ∧
      Vals (HidW S wr) (wrapN k (varT s)).d [.int .i64 (wrapN k (varT s)).kind, .string (wrapN k (varT s)).pkg, .string (wrapN k (varT s)).name, .slice B3 (wrapN k (varT s)).args.length x3, .slice B4 (wrapN k (varT s)).res.length x4] ∧
      Vals (HidW S wr) (wrapN k t).d [.int .i64 (wrapN k t).kind, .string (wrapN k t).pkg, .string (wrapN k t).name, .slice D3 (wrapN k t).args.length y3, .slice D4 (wrapN k t).res.length y4] ∧
      Below w1.heap.size w1 wr) (fun i _ => m - (intOf i).toNat)
    case atStart =>
      have hz : Below w.heap.size w ((w1.alloc (.cells #[.int .i64 9, .string ⟨#[]⟩, .string s, .slice none 0 0, .slice none 0 0] 26)).alloc (.cells #[.int .i64 t.kind, .string t.pkg, .string t.name, .slice A3 t.args.length c3, .slice A4 t.res.length c4] 26)) := (HB1.out.alloc HB1.out.size _).alloc (by have := HB1.out.size; simp only [World.size_alloc]; omega) _
      refine ⟨0, none, none, A3, A4, 0, 0, c3, c4, Nat.zero_le _, rfl, alloc_old (alloc_at w1 _) _, ?_, flat_ty _ 9 s ⟨by decide, by decide⟩ HS.out, HV.out.sub (hid_old hz (fun k hk => ?_)), ((Below.refl w1.heap.size w1).alloc (Nat.le_refl _) _).alloc (by simp) _⟩
      · have := alloc_at (w1.alloc (.cells #[.int .i64 9, .string ⟨#[]⟩, .string s, .slice none 0 0, .slice none 0 0] 26)) (.cells #[.int .i64 t.kind, .string t.pkg, .string t.name, .slice A3 t.args.length c3, .slice A4 t.res.length c4] 26)
        rw [World.size_alloc] at this; exact this
      · rw [HSS.out] at hk
        have := HB1.out.size
        simp at hk; omega
    case round =>
      obtain ⟨k, B3, B4, D3, D4, x3, x4, y3, y4, hk, rfl, hp, ha, hpv, hav, hbw⟩ := hrel
      have HPV := Lib.hid hpv; have HAV := Lib.hid hav; have HBW := Lib.hid hbw
      clear hpv hav hbw
      obtain ⟨p, hpe⟩ : ∃ p, p = wrapN k (varT s) := ⟨_, rfl⟩
      obtain ⟨a, hae⟩ : ∃ a, a = wrapN k t := ⟨_, rfl⟩
      have HPE := Lib.hid hpe; have HAE := Lib.hid hae
      rw [← hpe] at hp HPV
      rw [← hae] at ha HAV
      clear hpe hae
      have HP := Lib.hid hp; have HA := Lib.hid ha
      by_cases hlt : k < m
      · have hlt' : (k : Int) < m := by omega
        have g7_0 := hp; have g8_0 := ha
        have g7_1 : (wr.setCell ⟨w1.heap.size, 0, none⟩ (.int .i64 6)).heap[w1.heap.size]? = some (.cells #[.int .i64 6, .string p.pkg, .string p.name, .slice B3 p.args.length x3, .slice B4 p.res.length x4] 26 (0, 0)) := set_at g7_0 0 (.int .i64 6)
        have g8_1 : (wr.setCell ⟨w1.heap.size, 0, none⟩ (.int .i64 6)).heap[w1.heap.size + 1]? = some (.cells #[.int .i64 a.kind, .string a.pkg, .string a.name, .slice D3 a.args.length y3, .slice D4 a.res.length y4] 26 (0, 0)) := set_old g8_0 (p := ⟨w1.heap.size, 0, none⟩) (by show ¬ _ = _; simp only []; omega) _
        have g7_2 : ((wr.setCell ⟨w1.heap.size, 0, none⟩ (.int .i64 6)).setCell ⟨w1.heap.size, 1, none⟩ (.string ⟨#[]⟩)).heap[w1.heap.size]? = some (.cells #[.int .i64 6, .string ⟨#[]⟩, .string p.name, .slice B3 p.args.length x3, .slice B4 p.res.length x4] 26 (0, 0)) := set_at g7_1 1 (.string ⟨#[]⟩)
        have g8_2 : ((wr.setCell ⟨w1.heap.size, 0, none⟩ (.int .i64 6)).setCell ⟨w1.heap.size, 1, none⟩ (.string ⟨#[]⟩)).heap[w1.heap.size + 1]? = some (.cells #[.int .i64 a.kind, .string a.pkg, .string a.name, .slice D3 a.args.length y3, .slice D4 a.res.length y4] 26 (0, 0)) := set_old g8_1 (p := ⟨w1.heap.size, 1, none⟩) (by show ¬ _ = _; simp only []; omega) _
        have g7_3 : (((wr.setCell ⟨w1.heap.size, 0, none⟩ (.int .i64 6)).setCell ⟨w1.heap.size, 1, none⟩ (.string ⟨#[]⟩)).setCell ⟨w1.heap.size, 2, none⟩ (.string ⟨#[]⟩)).heap[w1.heap.size]? = some (.cells #[.int .i64 6, .string ⟨#[]⟩, .string ⟨#[]⟩, .slice B3 p.args.length x3, .slice B4 p.res.length x4] 26 (0, 0)) := set_at g7_2 2 (.string ⟨#[]⟩)
        have g8_3 : (((wr.setCell ⟨w1.heap.size, 0, none⟩ (.int .i64 6)).setCell ⟨w1.heap.size, 1, none⟩ (.string ⟨#[]⟩)).setCell ⟨w1.heap.size, 2, none⟩ (.string ⟨#[]⟩)).heap[w1.heap.size + 1]? = some (.cells #[.int .i64 a.kind, .string a.pkg, .string a.name, .slice D3 a.args.length y3, .slice D4 a.res.length y4] 26 (0, 0)) := set_old g8_2 (p := ⟨w1.heap.size, 2, none⟩) (by show ¬ _ = _; simp only []; omega) _
        have g7_4 : ((((wr.setCell ⟨w1.heap.size, 0, none⟩ (.int .i64 6)).setCell ⟨w1.heap.size, 1, none⟩ (.string ⟨#[]⟩)).setCell ⟨w1.heap.size, 2, none⟩ (.string ⟨#[]⟩)).setCell ⟨w1.heap.size, 3, none⟩ (.slice (some ⟨wr.heap.size, 0, none⟩) 1 1)).heap[w1.heap.size]? = some (.cells #[.int .i64 6, .string ⟨#[]⟩, .string ⟨#[]⟩, .slice (some ⟨wr.heap.size, 0, none⟩) 1 1, .slice B4 p.res.length x4] 26 (0, 0)) := set_at g7_3 3 (.slice (some ⟨wr.heap.size, 0, none⟩) 1 1)
        have g8_4 : ((((wr.setCell ⟨w1.heap.size, 0, none⟩ (.int .i64 6)).setCell ⟨w1.heap.size, 1, none⟩ (.string ⟨#[]⟩)).setCell ⟨w1.heap.size, 2, none⟩ (.string ⟨#[]⟩)).setCell ⟨w1.heap.size, 3, none⟩ (.slice (some ⟨wr.heap.size, 0, none⟩) 1 1)).heap[w1.heap.size + 1]? = some (.cells #[.int .i64 a.kind, .string a.pkg, .string a.name, .slice D3 a.args.length y3, .slice D4 a.res.length y4] 26 (0, 0)) := set_old g8_3 (p := ⟨w1.heap.size, 3, none⟩) (by show ¬ _ = _; simp only []; omega) _
        have g7_5 : (((((wr.setCell ⟨w1.heap.size, 0, none⟩ (.int .i64 6)).setCell ⟨w1.heap.size, 1, none⟩ (.string ⟨#[]⟩)).setCell ⟨w1.heap.size, 2, none⟩ (.string ⟨#[]⟩)).setCell ⟨w1.heap.size, 3, none⟩ (.slice (some ⟨wr.heap.size, 0, none⟩) 1 1)).setCell ⟨w1.heap.size, 4, none⟩ (.slice none 0 0)).heap[w1.heap.size]? = some (.cells #[.int .i64 6, .string ⟨#[]⟩, .string ⟨#[]⟩, .slice (some ⟨wr.heap.size, 0, none⟩) 1 1, .slice none 0 0] 26 (0, 0)) := set_at g7_4 4 (.slice none 0 0)
        have g8_5 : (((((wr.setCell ⟨w1.heap.size, 0, none⟩ (.int .i64 6)).setCell ⟨w1.heap.size, 1, none⟩ (.string ⟨#[]⟩)).setCell ⟨w1.heap.size, 2, none⟩ (.string ⟨#[]⟩)).setCell ⟨w1.heap.size, 3, none⟩ (.slice (some ⟨wr.heap.size, 0, none⟩) 1 1)).setCell ⟨w1.heap.size, 4, none⟩ (.slice none 0 0)).heap[w1.heap.size + 1]? = some (.cells #[.int .i64 a.kind, .string a.pkg, .string a.name, .slice D3 a.args.length y3, .slice D4 a.res.length y4] 26 (0, 0)) := set_old g8_4 (p := ⟨w1.heap.size, 4, none⟩) (by show ¬ _ = _; simp only []; omega) _
        have g7_6 : ((((((wr.setCell ⟨w1.heap.size, 0, none⟩ (.int .i64 6)).setCell ⟨w1.heap.size, 1, none⟩ (.string ⟨#[]⟩)).setCell ⟨w1.heap.size, 2, none⟩ (.string ⟨#[]⟩)).setCell ⟨w1.heap.size, 3, none⟩ (.slice (some ⟨wr.heap.size, 0, none⟩) 1 1)).setCell ⟨w1.heap.size, 4, none⟩ (.slice none 0 0)).setCell ⟨w1.heap.size + 1, 0, none⟩ (.int .i64 6)).heap[w1.heap.size]? = some (.cells #[.int .i64 6, .string ⟨#[]⟩, .string ⟨#[]⟩, .slice (some ⟨wr.heap.size, 0, none⟩) 1 1, .slice none 0 0] 26 (0, 0)) := set_old g7_5 (p := ⟨w1.heap.size + 1, 0, none⟩) (by show ¬ _ = _; simp only []; omega) _
        have g8_6 : ((((((wr.setCell ⟨w1.heap.size, 0, none⟩ (.int .i64 6)).setCell ⟨w1.heap.size, 1, none⟩ (.string ⟨#[]⟩)).setCell ⟨w1.heap.size, 2, none⟩ (.string ⟨#[]⟩)).setCell ⟨w1.heap.size, 3, none⟩ (.slice (some ⟨wr.heap.size, 0, none⟩) 1 1)).setCell ⟨w1.heap.size, 4, none⟩ (.slice none 0 0)).setCell ⟨w1.heap.size + 1, 0, none⟩ (.int .i64 6)).heap[w1.heap.size + 1]? = some (.cells #[.int .i64 6, .string a.pkg, .string a.name, .slice D3 a.args.length y3, .slice D4 a.res.length y4] 26 (0, 0)) := set_at g8_5 0 (.int .i64 6)
        have g7_7 : (((((((wr.setCell ⟨w1.heap.size, 0, none⟩ (.int .i64 6)).setCell ⟨w1.heap.size, 1, none⟩ (.string ⟨#[]⟩)).setCell ⟨w1.heap.size, 2, none⟩ (.string ⟨#[]⟩)).setCell ⟨w1.heap.size, 3, none⟩ (.slice (some ⟨wr.heap.size, 0, none⟩) 1 1)).setCell ⟨w1.heap.size, 4, none⟩ (.slice none 0 0)).setCell ⟨w1.heap.size + 1, 0, none⟩ (.int .i64 6)).setCell ⟨w1.heap.size + 1, 1, none⟩ (.string ⟨#[]⟩)).heap[w1.heap.size]? = some (.cells #[.int .i64 6, .string ⟨#[]⟩, .string ⟨#[]⟩, .slice (some ⟨wr.heap.size, 0, none⟩) 1 1, .slice none 0 0] 26 (0, 0)) := set_old g7_6 (p := ⟨w1.heap.size + 1, 1, none⟩) (by show ¬ _ = _; simp only []; omega) _
        have g8_7 : (((((((wr.setCell ⟨w1.heap.size, 0, none⟩ (.int .i64 6)).setCell ⟨w1.heap.size, 1, none⟩ (.string ⟨#[]⟩)).setCell ⟨w1.heap.size, 2, none⟩ (.string ⟨#[]⟩)).setCell ⟨w1.heap.size, 3, none⟩ (.slice (some ⟨wr.heap.size, 0, none⟩) 1 1)).setCell ⟨w1.heap.size, 4, none⟩ (.slice none 0 0)).setCell ⟨w1.heap.size + 1, 0, none⟩ (.int .i64 6)).setCell ⟨w1.heap.size + 1, 1, none⟩ (.string ⟨#[]⟩)).heap[w1.heap.size + 1]? = some (.cells #[.int .i64 6, .string ⟨#[]⟩, .string a.name, .slice D3 a.args.length y3, .slice D4 a.res.length y4] 26 (0, 0)) := set_at g8_6 1 (.string ⟨#[]⟩)
        have g7_8 : ((((((((wr.setCell ⟨w1.heap.size, 0, none⟩ (.int .i64 6)).setCell ⟨w1.heap.size, 1, none⟩ (.string ⟨#[]⟩)).setCell ⟨w1.heap.size, 2, none⟩ (.string ⟨#[]⟩)).setCell ⟨w1.heap.size, 3, none⟩ (.slice (some ⟨wr.heap.size, 0, none⟩) 1 1)).setCell ⟨w1.heap.size, 4, none⟩ (.slice none 0 0)).setCell ⟨w1.heap.size + 1, 0, none⟩ (.int .i64 6)).setCell ⟨w1.heap.size + 1, 1, none⟩ (.string ⟨#[]⟩)).setCell ⟨w1.heap.size + 1, 2, none⟩ (.string ⟨#[]⟩)).heap[w1.heap.size]? = some (.cells #[.int .i64 6, .string ⟨#[]⟩, .string ⟨#[]⟩, .slice (some ⟨wr.heap.size, 0, none⟩) 1 1, .slice none 0 0] 26 (0, 0)) := set_old g7_7 (p := ⟨w1.heap.size + 1, 2, none⟩) (by show ¬ _ = _; simp only []; omega) _
        have g8_8 : ((((((((wr.setCell ⟨w1.heap.size, 0, none⟩ (.int .i64 6)).setCell ⟨w1.heap.size, 1, none⟩ (.string ⟨#[]⟩)).setCell ⟨w1.heap.size, 2, none⟩ (.string ⟨#[]⟩)).setCell ⟨w1.heap.size, 3, none⟩ (.slice (some ⟨wr.heap.size, 0, none⟩) 1 1)).setCell ⟨w1.heap.size, 4, none⟩ (.slice none 0 0)).setCell ⟨w1.heap.size + 1, 0, none⟩ (.int .i64 6)).setCell ⟨w1.heap.size + 1, 1, none⟩ (.string ⟨#[]⟩)).setCell ⟨w1.heap.size + 1, 2, none⟩ (.string ⟨#[]⟩)).heap[w1.heap.size + 1]? = some (.cells #[.int .i64 6, .string ⟨#[]⟩, .string ⟨#[]⟩, .slice D3 a.args.length y3, .slice D4 a.res.length y4] 26 (0, 0)) := set_at g8_7 2 (.string ⟨#[]⟩)
        have g7_9 : (((((((((wr.setCell ⟨w1.heap.size, 0, none⟩ (.int .i64 6)).setCell ⟨w1.heap.size, 1, none⟩ (.string ⟨#[]⟩)).setCell ⟨w1.heap.size, 2, none⟩ (.string ⟨#[]⟩)).setCell ⟨w1.heap.size, 3, none⟩ (.slice (some ⟨wr.heap.size, 0, none⟩) 1 1)).setCell ⟨w1.heap.size, 4, none⟩ (.slice none 0 0)).setCell ⟨w1.heap.size + 1, 0, none⟩ (.int .i64 6)).setCell ⟨w1.heap.size + 1, 1, none⟩ (.string ⟨#[]⟩)).setCell ⟨w1.heap.size + 1, 2, none⟩ (.string ⟨#[]⟩)).setCell ⟨w1.heap.size + 1, 3, none⟩ (.slice (some ⟨wr.heap.size + 1, 0, none⟩) 1 1)).heap[w1.heap.size]? = some (.cells #[.int .i64 6, .string ⟨#[]⟩, .string ⟨#[]⟩, .slice (some ⟨wr.heap.size, 0, none⟩) 1 1, .slice none 0 0] 26 (0, 0)) := set_old g7_8 (p := ⟨w1.heap.size + 1, 3, none⟩) (by show ¬ _ = _; simp only []; omega) _
        have g8_9 : (((((((((wr.setCell ⟨w1.heap.size, 0, none⟩ (.int .i64 6)).setCell ⟨w1.heap.size, 1, none⟩ (.string ⟨#[]⟩)).setCell ⟨w1.heap.size, 2, none⟩ (.string ⟨#[]⟩)).setCell ⟨w1.heap.size, 3, none⟩ (.slice (some ⟨wr.heap.size, 0, none⟩) 1 1)).setCell ⟨w1.heap.size, 4, none⟩ (.slice none 0 0)).setCell ⟨w1.heap.size + 1, 0, none⟩ (.int .i64 6)).setCell ⟨w1.heap.size + 1, 1, none⟩ (.string ⟨#[]⟩)).setCell ⟨w1.heap.size + 1, 2, none⟩ (.string ⟨#[]⟩)).setCell ⟨w1.heap.size + 1, 3, none⟩ (.slice (some ⟨wr.heap.size + 1, 0, none⟩) 1 1)).heap[w1.heap.size + 1]? = some (.cells #[.int .i64 6, .string ⟨#[]⟩, .string ⟨#[]⟩, .slice (some ⟨wr.heap.size + 1, 0, none⟩) 1 1, .slice D4 a.res.length y4] 26 (0, 0)) := set_at g8_8 3 (.slice (some ⟨wr.heap.size + 1, 0, none⟩) 1 1)
        have g7_10 : ((((((((((wr.setCell ⟨w1.heap.size, 0, none⟩ (.int .i64 6)).setCell ⟨w1.heap.size, 1, none⟩ (.string ⟨#[]⟩)).setCell ⟨w1.heap.size, 2, none⟩ (.string ⟨#[]⟩)).setCell ⟨w1.heap.size, 3, none⟩ (.slice (some ⟨wr.heap.size, 0, none⟩) 1 1)).setCell ⟨w1.heap.size, 4, none⟩ (.slice none 0 0)).setCell ⟨w1.heap.size + 1, 0, none⟩ (.int .i64 6)).setCell ⟨w1.heap.size + 1, 1, none⟩ (.string ⟨#[]⟩)).setCell ⟨w1.heap.size + 1, 2, none⟩ (.string ⟨#[]⟩)).setCell ⟨w1.heap.size + 1, 3, none⟩ (.slice (some ⟨wr.heap.size + 1, 0, none⟩) 1 1)).setCell ⟨w1.heap.size + 1, 4, none⟩ (.slice none 0 0)).heap[w1.heap.size]? = some (.cells #[.int .i64 6, .string ⟨#[]⟩, .string ⟨#[]⟩, .slice (some ⟨wr.heap.size, 0, none⟩) 1 1, .slice none 0 0] 26 (0, 0)) := set_old g7_9 (p := ⟨w1.heap.size + 1, 4, none⟩) (by show ¬ _ = _; simp only []; omega) _
        have g8_10 : ((((((((((wr.setCell ⟨w1.heap.size, 0, none⟩ (.int .i64 6)).setCell ⟨w1.heap.size, 1, none⟩ (.string ⟨#[]⟩)).setCell ⟨w1.heap.size, 2, none⟩ (.string ⟨#[]⟩)).setCell ⟨w1.heap.size, 3, none⟩ (.slice (some ⟨wr.heap.size, 0, none⟩) 1 1)).setCell ⟨w1.heap.size, 4, none⟩ (.slice none 0 0)).setCell ⟨w1.heap.size + 1, 0, none⟩ (.int .i64 6)).setCell ⟨w1.heap.size + 1, 1, none⟩ (.string ⟨#[]⟩)).setCell ⟨w1.heap.size + 1, 2, none⟩ (.string ⟨#[]⟩)).setCell ⟨w1.heap.size + 1, 3, none⟩ (.slice (some ⟨wr.heap.size + 1, 0, none⟩) 1 1)).setCell ⟨w1.heap.size + 1, 4, none⟩ (.slice none 0 0)).heap[w1.heap.size + 1]? = some (.cells #[.int .i64 6, .string ⟨#[]⟩, .string ⟨#[]⟩, .slice (some ⟨wr.heap.size + 1, 0, none⟩) 1 1, .slice none 0 0] 26 (0, 0)) := set_at g8_9 4 (.slice none 0 0)
        have hn7 : w1.heap.size < wr.heap.size := lt_of_block hp
        have hn8 : w1.heap.size + 1 < wr.heap.size := lt_of_block ha
        have p0 : wr.cell? ⟨w1.heap.size, 0, none⟩ = some (.int .i64 p.kind) := (cell_at hp 0).trans rfl
        have s0 : wr.frozen? ⟨w1.heap.size, 0, none⟩ = false := free_at hp 0
        have q0 : wr.cell? ⟨w1.heap.size + 1, 0, none⟩ = some (.int .i64 a.kind) := (cell_at ha 0).trans rfl
        have u0 : wr.frozen? ⟨w1.heap.size + 1, 0, none⟩ = false := free_at ha 0
        have p1 : wr.cell? ⟨w1.heap.size, 1, none⟩ = some (.string p.pkg) := (cell_at hp 1).trans rfl
        have s1 : wr.frozen? ⟨w1.heap.size, 1, none⟩ = false := free_at hp 1
        have q1 : wr.cell? ⟨w1.heap.size + 1, 1, none⟩ = some (.string a.pkg) := (cell_at ha 1).trans rfl
        have u1 : wr.frozen? ⟨w1.heap.size + 1, 1, none⟩ = false := free_at ha 1
        have p2 : wr.cell? ⟨w1.heap.size, 2, none⟩ = some (.string p.name) := (cell_at hp 2).trans rfl
        have s2 : wr.frozen? ⟨w1.heap.size, 2, none⟩ = false := free_at hp 2
        have q2 : wr.cell? ⟨w1.heap.size + 1, 2, none⟩ = some (.string a.name) := (cell_at ha 2).trans rfl
        have u2 : wr.frozen? ⟨w1.heap.size + 1, 2, none⟩ = false := free_at ha 2
        have p3 : wr.cell? ⟨w1.heap.size, 3, none⟩ = some (.slice B3 p.args.length x3) := (cell_at hp 3).trans rfl
        have s3 : wr.frozen? ⟨w1.heap.size, 3, none⟩ = false := free_at hp 3
        have q3 : wr.cell? ⟨w1.heap.size + 1, 3, none⟩ = some (.slice D3 a.args.length y3) := (cell_at ha 3).trans rfl
        have u3 : wr.frozen? ⟨w1.heap.size + 1, 3, none⟩ = false := free_at ha 3
        have p4 : wr.cell? ⟨w1.heap.size, 4, none⟩ = some (.slice B4 p.res.length x4) := (cell_at hp 4).trans rfl
        have s4 : wr.frozen? ⟨w1.heap.size, 4, none⟩ = false := free_at hp 4
        have q4 : wr.cell? ⟨w1.heap.size + 1, 4, none⟩ = some (.slice D4 a.res.length y4) := (cell_at ha 4).trans rfl
        have u4 : wr.frozen? ⟨w1.heap.size + 1, 4, none⟩ = false := free_at ha 4
        have G7 := Lib.hid (show ((((((((((((wr.setCell ⟨w1.heap.size, 0, none⟩ (.int .i64 6)).setCell ⟨w1.heap.size, 1, none⟩ (.string ⟨#[]⟩)).setCell ⟨w1.heap.size, 2, none⟩ (.string ⟨#[]⟩)).setCell ⟨w1.heap.size, 3, none⟩ (.slice (some ⟨wr.heap.size, 0, none⟩) 1 1)).setCell ⟨w1.heap.size, 4, none⟩ (.slice none 0 0)).setCell ⟨w1.heap.size + 1, 0, none⟩ (.int .i64 6)).setCell ⟨w1.heap.size + 1, 1, none⟩ (.string ⟨#[]⟩)).setCell ⟨w1.heap.size + 1, 2, none⟩ (.string ⟨#[]⟩)).setCell ⟨w1.heap.size + 1, 3, none⟩ (.slice (some ⟨wr.heap.size + 1, 0, none⟩) 1 1)).setCell ⟨w1.heap.size + 1, 4, none⟩ (.slice none 0 0)).alloc (.cells #[.int .i64 p.kind, .string p.pkg, .string p.name, .slice B3 p.args.length x3, .slice B4 p.res.length x4] 26)).alloc (.cells #[.int .i64 a.kind, .string a.pkg, .string a.name, .slice D3 a.args.length y3, .slice D4 a.res.length y4] 26)).heap[w1.heap.size]? = some (.cells #[.int .i64 6, .string ⟨#[]⟩, .string ⟨#[]⟩, .slice (some ⟨wr.heap.size, 0, none⟩) 1 1, .slice none 0 0] 26 (0, 0)) from alloc_old (alloc_old g7_10 _) _)
        have G8 := Lib.hid (show ((((((((((((wr.setCell ⟨w1.heap.size, 0, none⟩ (.int .i64 6)).setCell ⟨w1.heap.size, 1, none⟩ (.string ⟨#[]⟩)).setCell ⟨w1.heap.size, 2, none⟩ (.string ⟨#[]⟩)).setCell ⟨w1.heap.size, 3, none⟩ (.slice (some ⟨wr.heap.size, 0, none⟩) 1 1)).setCell ⟨w1.heap.size, 4, none⟩ (.slice none 0 0)).setCell ⟨w1.heap.size + 1, 0, none⟩ (.int .i64 6)).setCell ⟨w1.heap.size + 1, 1, none⟩ (.string ⟨#[]⟩)).setCell ⟨w1.heap.size + 1, 2, none⟩ (.string ⟨#[]⟩)).setCell ⟨w1.heap.size + 1, 3, none⟩ (.slice (some ⟨wr.heap.size + 1, 0, none⟩) 1 1)).setCell ⟨w1.heap.size + 1, 4, none⟩ (.slice none 0 0)).alloc (.cells #[.int .i64 p.kind, .string p.pkg, .string p.name, .slice B3 p.args.length x3, .slice B4 p.res.length x4] 26)).alloc (.cells #[.int .i64 a.kind, .string a.pkg, .string a.name, .slice D3 a.args.length y3, .slice D4 a.res.length y4] 26)).heap[w1.heap.size + 1]? = some (.cells #[.int .i64 6, .string ⟨#[]⟩, .string ⟨#[]⟩, .slice (some ⟨wr.heap.size + 1, 0, none⟩) 1 1, .slice none 0 0] 26 (0, 0)) from alloc_old (alloc_old g8_10 _) _)
        have HCZ := Lib.hid (show Chg (fun k => k = w1.heap.size ∨ k = w1.heap.size + 1) wr ((((((((((((wr.setCell ⟨w1.heap.size, 0, none⟩ (.int .i64 6)).setCell ⟨w1.heap.size, 1, none⟩ (.string ⟨#[]⟩)).setCell ⟨w1.heap.size, 2, none⟩ (.string ⟨#[]⟩)).setCell ⟨w1.heap.size, 3, none⟩ (.slice (some ⟨wr.heap.size, 0, none⟩) 1 1)).setCell ⟨w1.heap.size, 4, none⟩ (.slice none 0 0)).setCell ⟨w1.heap.size + 1, 0, none⟩ (.int .i64 6)).setCell ⟨w1.heap.size + 1, 1, none⟩ (.string ⟨#[]⟩)).setCell ⟨w1.heap.size + 1, 2, none⟩ (.string ⟨#[]⟩)).setCell ⟨w1.heap.size + 1, 3, none⟩ (.slice (some ⟨wr.heap.size + 1, 0, none⟩) 1 1)).setCell ⟨w1.heap.size + 1, 4, none⟩ (.slice none 0 0)).alloc (.cells #[.int .i64 p.kind, .string p.pkg, .string p.name, .slice B3 p.args.length x3, .slice B4 p.res.length x4] 26)).alloc (.cells #[.int .i64 a.kind, .string a.pkg, .string a.name, .slice D3 a.args.length y3, .slice D4 a.res.length y4] 26)) from (((((((((((((Chg.refl (fun k => k = w1.heap.size ∨ k = w1.heap.size + 1) wr).setCell (p := ⟨w1.heap.size, 0, none⟩) (fun _ => .inl rfl) (.int .i64 6)).setCell (p := ⟨w1.heap.size, 1, none⟩) (fun _ => .inl rfl) (.string ⟨#[]⟩)).setCell (p := ⟨w1.heap.size, 2, none⟩) (fun _ => .inl rfl) (.string ⟨#[]⟩)).setCell (p := ⟨w1.heap.size, 3, none⟩) (fun _ => .inl rfl) (.slice (some ⟨wr.heap.size, 0, none⟩) 1 1)).setCell (p := ⟨w1.heap.size, 4, none⟩) (fun _ => .inl rfl) (.slice none 0 0)).setCell (p := ⟨w1.heap.size + 1, 0, none⟩) (fun _ => .inr rfl) (.int .i64 6)).setCell (p := ⟨w1.heap.size + 1, 1, none⟩) (fun _ => .inr rfl) (.string ⟨#[]⟩)).setCell (p := ⟨w1.heap.size + 1, 2, none⟩) (fun _ => .inr rfl) (.string ⟨#[]⟩)).setCell (p := ⟨w1.heap.size + 1, 3, none⟩) (fun _ => .inr rfl) (.slice (some ⟨wr.heap.size + 1, 0, none⟩) 1 1)).setCell (p := ⟨w1.heap.size + 1, 4, none⟩) (fun _ => .inr rfl) (.slice none 0 0)).alloc _).alloc _))
        have HSZ10 := Lib.hid (show ((((((((((wr.setCell ⟨w1.heap.size, 0, none⟩ (.int .i64 6)).setCell ⟨w1.heap.size, 1, none⟩ (.string ⟨#[]⟩)).setCell ⟨w1.heap.size, 2, none⟩ (.string ⟨#[]⟩)).setCell ⟨w1.heap.size, 3, none⟩ (.slice (some ⟨wr.heap.size, 0, none⟩) 1 1)).setCell ⟨w1.heap.size, 4, none⟩ (.slice none 0 0)).setCell ⟨w1.heap.size + 1, 0, none⟩ (.int .i64 6)).setCell ⟨w1.heap.size + 1, 1, none⟩ (.string ⟨#[]⟩)).setCell ⟨w1.heap.size + 1, 2, none⟩ (.string ⟨#[]⟩)).setCell ⟨w1.heap.size + 1, 3, none⟩ (.slice (some ⟨wr.heap.size + 1, 0, none⟩) 1 1)).setCell ⟨w1.heap.size + 1, 4, none⟩ (.slice none 0 0)).heap.size = wr.heap.size by simp)
        have GP := Lib.hid (show ((((((((((((wr.setCell ⟨w1.heap.size, 0, none⟩ (.int .i64 6)).setCell ⟨w1.heap.size, 1, none⟩ (.string ⟨#[]⟩)).setCell ⟨w1.heap.size, 2, none⟩ (.string ⟨#[]⟩)).setCell ⟨w1.heap.size, 3, none⟩ (.slice (some ⟨wr.heap.size, 0, none⟩) 1 1)).setCell ⟨w1.heap.size, 4, none⟩ (.slice none 0 0)).setCell ⟨w1.heap.size + 1, 0, none⟩ (.int .i64 6)).setCell ⟨w1.heap.size + 1, 1, none⟩ (.string ⟨#[]⟩)).setCell ⟨w1.heap.size + 1, 2, none⟩ (.string ⟨#[]⟩)).setCell ⟨w1.heap.size + 1, 3, none⟩ (.slice (some ⟨wr.heap.size + 1, 0, none⟩) 1 1)).setCell ⟨w1.heap.size + 1, 4, none⟩ (.slice none 0 0)).alloc (.cells #[.int .i64 p.kind, .string p.pkg, .string p.name, .slice B3 p.args.length x3, .slice B4 p.res.length x4] 26)).alloc (.cells #[.int .i64 a.kind, .string a.pkg, .string a.name, .slice D3 a.args.length y3, .slice D4 a.res.length y4] 26)).heap[wr.heap.size]? = some (.cells #[.int .i64 p.kind, .string p.pkg, .string p.name, .slice B3 p.args.length x3, .slice B4 p.res.length x4] 26 (0, 0)) from alloc_old (by have := alloc_at ((((((((((wr.setCell ⟨w1.heap.size, 0, none⟩ (.int .i64 6)).setCell ⟨w1.heap.size, 1, none⟩ (.string ⟨#[]⟩)).setCell ⟨w1.heap.size, 2, none⟩ (.string ⟨#[]⟩)).setCell ⟨w1.heap.size, 3, none⟩ (.slice (some ⟨wr.heap.size, 0, none⟩) 1 1)).setCell ⟨w1.heap.size, 4, none⟩ (.slice none 0 0)).setCell ⟨w1.heap.size + 1, 0, none⟩ (.int .i64 6)).setCell ⟨w1.heap.size + 1, 1, none⟩ (.string ⟨#[]⟩)).setCell ⟨w1.heap.size + 1, 2, none⟩ (.string ⟨#[]⟩)).setCell ⟨w1.heap.size + 1, 3, none⟩ (.slice (some ⟨wr.heap.size + 1, 0, none⟩) 1 1)).setCell ⟨w1.heap.size + 1, 4, none⟩ (.slice none 0 0)) (.cells #[.int .i64 p.kind, .string p.pkg, .string p.name, .slice B3 p.args.length x3, .slice B4 p.res.length x4] 26); rw [HSZ10.out] at this; exact this) _)
        have GA := Lib.hid (show ((((((((((((wr.setCell ⟨w1.heap.size, 0, none⟩ (.int .i64 6)).setCell ⟨w1.heap.size, 1, none⟩ (.string ⟨#[]⟩)).setCell ⟨w1.heap.size, 2, none⟩ (.string ⟨#[]⟩)).setCell ⟨w1.heap.size, 3, none⟩ (.slice (some ⟨wr.heap.size, 0, none⟩) 1 1)).setCell ⟨w1.heap.size, 4, none⟩ (.slice none 0 0)).setCell ⟨w1.heap.size + 1, 0, none⟩ (.int .i64 6)).setCell ⟨w1.heap.size + 1, 1, none⟩ (.string ⟨#[]⟩)).setCell ⟨w1.heap.size + 1, 2, none⟩ (.string ⟨#[]⟩)).setCell ⟨w1.heap.size + 1, 3, none⟩ (.slice (some ⟨wr.heap.size + 1, 0, none⟩) 1 1)).setCell ⟨w1.heap.size + 1, 4, none⟩ (.slice none 0 0)).alloc (.cells #[.int .i64 p.kind, .string p.pkg, .string p.name, .slice B3 p.args.length x3, .slice B4 p.res.length x4] 26)).alloc (.cells #[.int .i64 a.kind, .string a.pkg, .string a.name, .slice D3 a.args.length y3, .slice D4 a.res.length y4] 26)).heap[wr.heap.size + 1]? = some (.cells #[.int .i64 a.kind, .string a.pkg, .string a.name, .slice D3 a.args.length y3, .slice D4 a.res.length y4] 26 (0, 0)) from by have := alloc_at (((((((((((wr.setCell ⟨w1.heap.size, 0, none⟩ (.int .i64 6)).setCell ⟨w1.heap.size, 1, none⟩ (.string ⟨#[]⟩)).setCell ⟨w1.heap.size, 2, none⟩ (.string ⟨#[]⟩)).setCell ⟨w1.heap.size, 3, none⟩ (.slice (some ⟨wr.heap.size, 0, none⟩) 1 1)).setCell ⟨w1.heap.size, 4, none⟩ (.slice none 0 0)).setCell ⟨w1.heap.size + 1, 0, none⟩ (.int .i64 6)).setCell ⟨w1.heap.size + 1, 1, none⟩ (.string ⟨#[]⟩)).setCell ⟨w1.heap.size + 1, 2, none⟩ (.string ⟨#[]⟩)).setCell ⟨w1.heap.size + 1, 3, none⟩ (.slice (some ⟨wr.heap.size + 1, 0, none⟩) 1 1)).setCell ⟨w1.heap.size + 1, 4, none⟩ (.slice none 0 0)).alloc (.cells #[.int .i64 p.kind, .string p.pkg, .string p.name, .slice B3 p.args.length x3, .slice B4 p.res.length x4] 26)) (.cells #[.int .i64 a.kind, .string a.pkg, .string a.name, .slice D3 a.args.length y3, .slice D4 a.res.length y4] 26); rw [World.size_alloc, HSZ10.out] at this; exact this)
        clear hp ha g7_0 g8_0 g7_1 g8_1 g7_2 g8_2 g7_3 g8_3 g7_4 g8_4 g7_5 g8_5 g7_6 g8_6 g7_7 g8_7 g7_8 g8_8 g7_9 g8_9 g7_10 g8_10
        have HSP := Lib.hid (show S wr.heap.size = false by rw [HSS.out]; simp; omega)
        have HSA := Lib.hid (show S (wr.heap.size + 1) = false by rw [HSS.out]; simp; omega)
        have HCS := Lib.hid (show Sub (HidW S wr) (HidW S ((((((((((((wr.setCell ⟨w1.heap.size, 0, none⟩ (.int .i64 6)).setCell ⟨w1.heap.size, 1, none⟩ (.string ⟨#[]⟩)).setCell ⟨w1.heap.size, 2, none⟩ (.string ⟨#[]⟩)).setCell ⟨w1.heap.size, 3, none⟩ (.slice (some ⟨wr.heap.size, 0, none⟩) 1 1)).setCell ⟨w1.heap.size, 4, none⟩ (.slice none 0 0)).setCell ⟨w1.heap.size + 1, 0, none⟩ (.int .i64 6)).setCell ⟨w1.heap.size + 1, 1, none⟩ (.string ⟨#[]⟩)).setCell ⟨w1.heap.size + 1, 2, none⟩ (.string ⟨#[]⟩)).setCell ⟨w1.heap.size + 1, 3, none⟩ (.slice (some ⟨wr.heap.size + 1, 0, none⟩) 1 1)).setCell ⟨w1.heap.size + 1, 4, none⟩ (.slice none 0 0)).alloc (.cells #[.int .i64 p.kind, .string p.pkg, .string p.name, .slice B3 p.args.length x3, .slice B4 p.res.length x4] 26)).alloc (.cells #[.int .i64 a.kind, .string a.pkg, .string a.name, .slice D3 a.args.length y3, .slice D4 a.res.length y4] 26))) from hid_chg HCZ.out (fun k hk => by rw [HSS.out]; simpa using hk))
        have HBZ := Lib.hid (show Below w1.heap.size w1 ((((((((((((wr.setCell ⟨w1.heap.size, 0, none⟩ (.int .i64 6)).setCell ⟨w1.heap.size, 1, none⟩ (.string ⟨#[]⟩)).setCell ⟨w1.heap.size, 2, none⟩ (.string ⟨#[]⟩)).setCell ⟨w1.heap.size, 3, none⟩ (.slice (some ⟨wr.heap.size, 0, none⟩) 1 1)).setCell ⟨w1.heap.size, 4, none⟩ (.slice none 0 0)).setCell ⟨w1.heap.size + 1, 0, none⟩ (.int .i64 6)).setCell ⟨w1.heap.size + 1, 1, none⟩ (.string ⟨#[]⟩)).setCell ⟨w1.heap.size + 1, 2, none⟩ (.string ⟨#[]⟩)).setCell ⟨w1.heap.size + 1, 3, none⟩ (.slice (some ⟨wr.heap.size + 1, 0, none⟩) 1 1)).setCell ⟨w1.heap.size + 1, 4, none⟩ (.slice none 0 0)).alloc (.cells #[.int .i64 p.kind, .string p.pkg, .string p.name, .slice B3 p.args.length x3, .slice B4 p.res.length x4] 26)).alloc (.cells #[.int .i64 a.kind, .string a.pkg, .string a.name, .slice D3 a.args.length y3, .slice D4 a.res.length y4] 26)) from Below.chg HBW.out HCZ.out HBW.out.size (fun i hi => by omega))
        have HVP := Lib.hid (show Vals (HidW S ((((((((((((wr.setCell ⟨w1.heap.size, 0, none⟩ (.int .i64 6)).setCell ⟨w1.heap.size, 1, none⟩ (.string ⟨#[]⟩)).setCell ⟨w1.heap.size, 2, none⟩ (.string ⟨#[]⟩)).setCell ⟨w1.heap.size, 3, none⟩ (.slice (some ⟨wr.heap.size, 0, none⟩) 1 1)).setCell ⟨w1.heap.size, 4, none⟩ (.slice none 0 0)).setCell ⟨w1.heap.size + 1, 0, none⟩ (.int .i64 6)).setCell ⟨w1.heap.size + 1, 1, none⟩ (.string ⟨#[]⟩)).setCell ⟨w1.heap.size + 1, 2, none⟩ (.string ⟨#[]⟩)).setCell ⟨w1.heap.size + 1, 3, none⟩ (.slice (some ⟨wr.heap.size + 1, 0, none⟩) 1 1)).setCell ⟨w1.heap.size + 1, 4, none⟩ (.slice none 0 0)).alloc (.cells #[.int .i64 p.kind, .string p.pkg, .string p.name, .slice B3 p.args.length x3, .slice B4 p.res.length x4] 26)).alloc (.cells #[.int .i64 a.kind, .string a.pkg, .string a.name, .slice D3 a.args.length y3, .slice D4 a.res.length y4] 26))) (wrapN (k + 1) (varT s)).d [.int .i64 6, .string ⟨#[]⟩, .string ⟨#[]⟩, .slice (some ⟨wr.heap.size, 0, none⟩) 1 1, .slice none 0 0] from by have := HPE.out; subst this; exact arg_ty _ 6 [_] _ _ ⟨by decide, by decide⟩ (sl_one ((hid_heap HSP.out).trans GP.out) (HPV.out.sub HCS.out)))
        have HVA := Lib.hid (show Vals (HidW S ((((((((((((wr.setCell ⟨w1.heap.size, 0, none⟩ (.int .i64 6)).setCell ⟨w1.heap.size, 1, none⟩ (.string ⟨#[]⟩)).setCell ⟨w1.heap.size, 2, none⟩ (.string ⟨#[]⟩)).setCell ⟨w1.heap.size, 3, none⟩ (.slice (some ⟨wr.heap.size, 0, none⟩) 1 1)).setCell ⟨w1.heap.size, 4, none⟩ (.slice none 0 0)).setCell ⟨w1.heap.size + 1, 0, none⟩ (.int .i64 6)).setCell ⟨w1.heap.size + 1, 1, none⟩ (.string ⟨#[]⟩)).setCell ⟨w1.heap.size + 1, 2, none⟩ (.string ⟨#[]⟩)).setCell ⟨w1.heap.size + 1, 3, none⟩ (.slice (some ⟨wr.heap.size + 1, 0, none⟩) 1 1)).setCell ⟨w1.heap.size + 1, 4, none⟩ (.slice none 0 0)).alloc (.cells #[.int .i64 p.kind, .string p.pkg, .string p.name, .slice B3 p.args.length x3, .slice B4 p.res.length x4] 26)).alloc (.cells #[.int .i64 a.kind, .string a.pkg, .string a.name, .slice D3 a.args.length y3, .slice D4 a.res.length y4] 26))) (wrapN (k + 1) t).d [.int .i64 6, .string ⟨#[]⟩, .string ⟨#[]⟩, .slice (some ⟨wr.heap.size + 1, 0, none⟩) 1 1, .slice none 0 0] from by have := HAE.out; subst this; exact arg_ty _ 6 [_] _ _ ⟨by decide, by decide⟩ (sl_one ((hid_heap HSA.out).trans GA.out) (HAV.out.sub HCS.out)))
        go_wp2_with fail
        go_roundw
        case rel => exact ⟨k + 1, some ⟨wr.heap.size, 0, none⟩, none, some ⟨wr.heap.size + 1, 0, none⟩, none, 1, 0, 1, 0, by omega, by go_num, G7.out, G8.out, HVP.out, HVA.out, HBZ.out⟩
        case measure => simp [intOf]; omega
      · obtain rfl : k = m := by omega
        have p0 : wr.cell? ⟨w1.heap.size, 0, none⟩ = some (.int .i64 p.kind) := (cell_at hp 0).trans rfl
        have q0 : wr.cell? ⟨w1.heap.size + 1, 0, none⟩ = some (.int .i64 a.kind) := (cell_at ha 0).trans rfl
        have p1 : wr.cell? ⟨w1.heap.size, 1, none⟩ = some (.string p.pkg) := (cell_at hp 1).trans rfl
        have q1 : wr.cell? ⟨w1.heap.size + 1, 1, none⟩ = some (.string a.pkg) := (cell_at ha 1).trans rfl
        have p2 : wr.cell? ⟨w1.heap.size, 2, none⟩ = some (.string p.name) := (cell_at hp 2).trans rfl
        have q2 : wr.cell? ⟨w1.heap.size + 1, 2, none⟩ = some (.string a.name) := (cell_at ha 2).trans rfl
        have p3 : wr.cell? ⟨w1.heap.size, 3, none⟩ = some (.slice B3 p.args.length x3) := (cell_at hp 3).trans rfl
        have q3 : wr.cell? ⟨w1.heap.size + 1, 3, none⟩ = some (.slice D3 a.args.length y3) := (cell_at ha 3).trans rfl
        have p4 : wr.cell? ⟨w1.heap.size, 4, none⟩ = some (.slice B4 p.res.length x4) := (cell_at hp 4).trans rfl
        have q4 : wr.cell? ⟨w1.heap.size + 1, 4, none⟩ = some (.slice D4 a.res.length y4) := (cell_at ha 4).trans rfl
        have hn7 : w1.heap.size < wr.heap.size := lt_of_block hp
        have hn8 : w1.heap.size + 1 < wr.heap.size := lt_of_block ha
        have hlt' : ¬ (k : Int) < k := by omega
        have HB2 := Lib.hid (show Below wr.heap.size wr (((wr.alloc (.cells #[.string s] 9)).alloc (.cells #[.int .i64 p.kind, .string p.pkg, .string p.name, .slice B3 p.args.length x3, .slice B4 p.res.length x4] 26)).alloc (.cells #[.int .i64 a.kind, .string a.pkg, .string a.name, .slice D3 a.args.length y3, .slice D4 a.res.length y4] 26)) from (((Below.refl wr.heap.size wr).alloc (Nat.le_refl _) _).alloc (by simp) _).alloc (by simp only [World.size_alloc]; omega) _)
        have hpv := (HPV.out.sub (hid_sub S wr)).sub (Below.sub HB2.out)
        have hav := (HAV.out.sub (hid_sub S wr)).sub (Below.sub HB2.out)
        have HN := Lib.hid (show SL (((wr.alloc (.cells #[.string s] 9)).alloc (.cells #[.int .i64 p.kind, .string p.pkg, .string p.name, .slice B3 p.args.length x3, .slice B4 p.res.length x4] 26)).alloc (.cells #[.int .i64 a.kind, .string a.pkg, .string a.name, .slice D3 a.args.length y3, .slice D4 a.res.length y4] 26)) 1 (strs [s]) 1 (some ⟨wr.heap.size, 0, none⟩) 1 from strs_one (alloc_old (alloc_old (alloc_at wr _) _) _) HS.out)
        have HLP := Lib.hid (show SL (((wr.alloc (.cells #[.string s] 9)).alloc (.cells #[.int .i64 p.kind, .string p.pkg, .string p.name, .slice B3 p.args.length x3, .slice B4 p.res.length x4] 26)).alloc (.cells #[.int .i64 a.kind, .string a.pkg, .string a.name, .slice D3 a.args.length y3, .slice D4 a.res.length y4] 26)) 5 (Ty.ds [p]) 1 (some ⟨wr.heap.size + 1, 0, none⟩) 1 from sl_one (alloc_old (by have := alloc_at (wr.alloc (.cells #[.string s] 9)) (.cells #[.int .i64 p.kind, .string p.pkg, .string p.name, .slice B3 p.args.length x3, .slice B4 p.res.length x4] 26); rw [World.size_alloc] at this; exact this) _) hpv)
        have HLA := Lib.hid (show SL (((wr.alloc (.cells #[.string s] 9)).alloc (.cells #[.int .i64 p.kind, .string p.pkg, .string p.name, .slice B3 p.args.length x3, .slice B4 p.res.length x4] 26)).alloc (.cells #[.int .i64 a.kind, .string a.pkg, .string a.name, .slice D3 a.args.length y3, .slice D4 a.res.length y4] 26)) 5 (Ty.ds [a]) 1 (some ⟨wr.heap.size + 1 + 1, 0, none⟩) 1 from sl_one (by have := alloc_at ((wr.alloc (.cells #[.string s] 9)).alloc (.cells #[.int .i64 p.kind, .string p.pkg, .string p.name, .slice B3 p.args.length x3, .slice B4 p.res.length x4] 26)) (.cells #[.int .i64 a.kind, .string a.pkg, .string a.name, .slice D3 a.args.length y3, .slice D4 a.res.length y4] 26); rw [World.size_alloc, World.size_alloc] at this; exact this) hav)
        have HPW := Lib.hid hpv; have HAW := Lib.hid hav
        have HTZ := Lib.hid (show t.sz ≤ 400 by have := HSZ.out; simp only [Ty.szL] at this; omega)
        have HI := Lib.hid (infer_any (((wr.alloc (.cells #[.string s] 9)).alloc (.cells #[.int .i64 p.kind, .string p.pkg, .string p.name, .slice B3 p.args.length x3, .slice B4 p.res.length x4] 26)).alloc (.cells #[.int .i64 a.kind, .string a.pkg, .string a.name, .slice D3 a.args.length y3, .slice D4 a.res.length y4] 26)) [s] [p] [a] _ _ _ _ _ _ HN.out HLP.out HLA.out (by simp) (fun x hx => by rw [List.mem_singleton.1 hx, HAE.out, wrap_sz]; have := HTZ.out; omega))
        have HIE := Lib.hid (show inferP [s] [p] [a] = if (decide (t.kind = 4) || decide (t.kind = 0)) = true then none else some [t] by rw [HPE.out, HAE.out]; exact wrap_infer s t k)
        clear hp ha hpv hav
        go_wp2_with fail
        refine HI.out.mono ?_
        rw [HIE.out]
        have HP0 := Lib.hid ((HB2.out.block _ (lt_of_block HP.out)).trans HP.out); have HA0 := Lib.hid ((HB2.out.block _ (lt_of_block HA.out)).trans HA.out)
        have HT0 := Lib.hid ((HB2.out.block _ (by have := lt_of_block HBK1.out; have := HBW.out.size; omega)).trans ((HBW.out.block _ (lt_of_block HBK1.out)).trans HBK1.out))
        have HBX := Lib.hid ((HB1.out.trans (HBW.out.mono HB1.out.size)).trans (HB2.out.mono (Nat.le_trans HB1.out.size HBW.out.size)))
        by_cases hbad : (decide (t.kind = 4) || decide (t.kind = 0)) = true
        · rw [if_pos hbad]
          rintro e w3 (⟨_, rfl, hb⟩ | ⟨ts, A, c, h, _⟩)
          case inr => cases h
          have HB3 := Lib.hid (HBX.out.trans (hb.mono HBX.out.size))
          have v0 : w3.cell? ⟨w.heap.size, 0, none⟩ = some (.int .i64 t.kind) := (cell_at ((hb.block _ (lt_of_block HT0.out)).trans HT0.out) 0).trans rfl
          have kb : ∃ b0 b4 : Bool, (t.kind == 0) = b0 ∧ (t.kind == 4) = b4 ∧ (b0 = true ∨ (b0 = false ∧ b4 = true)) := ⟨_, _, rfl, rfl, by
            simp only [Bool.or_eq_true, decide_eq_true_eq] at hbad
            rcases hbad with h | h
            · exact .inr ⟨by simp [h], by simp [h]⟩
            · exact .inl (by simp [h])⟩
          obtain ⟨b0, b4, kb0, kb4, h40⟩ := kb
          clear hb hbad
          rcases h40 with rfl | ⟨rfl, rfl⟩
          all_goals
            go_wp2_with fail
            exact bodyPost_ret (results_tmp rfl _ _ _) rfl ⟨rfl, HB3.out⟩
        rw [if_neg hbad]
        rintro e w3 (⟨h, _⟩ | ⟨ts, A, c, h, rfl, hsl, hb⟩)
        · cases h
        injection h with h
        subst h
        have kb4 : (t.kind == 4) = false := by simp only [Bool.or_eq_true, decide_eq_true_eq, not_or] at hbad; simp [hbad.1]
        have kb0 : (t.kind == 0) = false := by simp only [Bool.or_eq_true, decide_eq_true_eq, not_or] at hbad; simp [hbad.2]
        have HB3 := Lib.hid (HBX.out.trans (hb.mono HBX.out.size))
        have HP3 := Lib.hid ((hb.block _ (lt_of_block HP0.out)).trans HP0.out); have HA3 := Lib.hid ((hb.block _ (lt_of_block HA0.out)).trans HA0.out); have HT3 := Lib.hid ((hb.block _ (lt_of_block HT0.out)).trans HT0.out)
        have HPV3 := Lib.hid (HPW.out.sub (Below.sub hb)); have HAV3 := Lib.hid (HAW.out.sub (Below.sub hb))
        have HTV3 := Lib.hid (HV.out.sub (Below.sub HB3.out))
        have HSL3 := Lib.hid (show SL w3 5 (Ty.ds [t]) 1 A c from hsl.sub fun a v q => ((new_cell _ _ _ _ _).1 q).2)
        obtain ⟨bl, ol, E3, z3, E4, z4, hA, g0, g1, g2, g3, g4, hvl⟩ := sl_head HSL3.out
        have HVL := Lib.hid hvl
        subst hA
        have v0 : w3.cell? ⟨w.heap.size, 0, none⟩ = some (.int .i64 t.kind) := (cell_at HT3.out 0).trans rfl
        have p0 : w3.cell? ⟨w1.heap.size, 0, none⟩ = some (.int .i64 p.kind) := (cell_at HP3.out 0).trans rfl
        have q0 : w3.cell? ⟨w1.heap.size + 1, 0, none⟩ = some (.int .i64 a.kind) := (cell_at HA3.out 0).trans rfl
        have v1 : w3.cell? ⟨w.heap.size, 1, none⟩ = some (.string t.pkg) := (cell_at HT3.out 1).trans rfl
        have p1 : w3.cell? ⟨w1.heap.size, 1, none⟩ = some (.string p.pkg) := (cell_at HP3.out 1).trans rfl
        have q1 : w3.cell? ⟨w1.heap.size + 1, 1, none⟩ = some (.string a.pkg) := (cell_at HA3.out 1).trans rfl
        have v2 : w3.cell? ⟨w.heap.size, 2, none⟩ = some (.string t.name) := (cell_at HT3.out 2).trans rfl
        have p2 : w3.cell? ⟨w1.heap.size, 2, none⟩ = some (.string p.name) := (cell_at HP3.out 2).trans rfl
        have q2 : w3.cell? ⟨w1.heap.size + 1, 2, none⟩ = some (.string a.name) := (cell_at HA3.out 2).trans rfl
        have v3 : w3.cell? ⟨w.heap.size, 3, none⟩ = some (.slice A3 t.args.length c3) := (cell_at HT3.out 3).trans rfl
        have p3 : w3.cell? ⟨w1.heap.size, 3, none⟩ = some (.slice B3 p.args.length x3) := (cell_at HP3.out 3).trans rfl
        have q3 : w3.cell? ⟨w1.heap.size + 1, 3, none⟩ = some (.slice D3 a.args.length y3) := (cell_at HA3.out 3).trans rfl
        have v4 : w3.cell? ⟨w.heap.size, 4, none⟩ = some (.slice A4 t.res.length c4) := (cell_at HT3.out 4).trans rfl
        have p4 : w3.cell? ⟨w1.heap.size, 4, none⟩ = some (.slice B4 p.res.length x4) := (cell_at HP3.out 4).trans rfl
        have q4 : w3.cell? ⟨w1.heap.size + 1, 4, none⟩ = some (.slice D4 a.res.length y4) := (cell_at HA3.out 4).trans rfl
        clear hb hsl hvl hbad 
        go_wp2_with fail
        refine wp_region_otN (fun wS => Below w3.heap.size w3 wS) (.get 0 (.get 1 (.get 2 (.get 3 (.get 4 (.get 5 (.get 6 (.get 7 (.get 8 (.get 9 (.get 10 (.one 11 (.get 12 (.get 13 (.get 14 (.get 15 (.get 17 (.get 19 (.one 16 (.one 18 (.one 20 (.get 21 (.get 22 .done))))))))))))))))))))))) (by kernel_rfl) (by kernel_rfl) (Below.drew (Below.refl _ _)) ?_
        apply wpT_get rfl
        · go_simp
        · intro wS hS
          go_simp
          try rfl
        intro K hK
        go_simp
        refine hK _ ?_
        clear hK K
        apply wpT_get rfl
        · go_simp
        · intro wS hS
          go_simp
          try rfl
        intro K hK
        go_simp
        refine hK _ ?_
        clear hK K
        apply wpT_get rfl
        · go_simp
        · intro wS hS
          go_simp
          try rfl
        intro K hK
        go_simp
        refine hK _ ?_
        clear hK K
        apply wpT_get rfl
        · go_simp
        · intro wS hS
          go_simp
          try rfl
        intro K hK
        go_simp
        refine hK _ ?_
        clear hK K
        apply wpT_get rfl
        · go_simp
        · intro wS hS
          go_simp
          try rfl
        intro K hK
        go_simp
        refine hK _ ?_
        clear hK K
        apply wpT_get rfl
        · go_simp
        · intro wS hS
          go_simp
          try rfl
        intro K hK
        go_simp
        refine hK _ ?_
        clear hK K
        apply wpT_get rfl
        · go_simp
        · intro wS hS
          go_simp
          try rfl
        intro K hK
        go_simp
        refine hK _ ?_
        clear hK K
        apply wpT_get rfl
        · go_simp
        · intro wS hS
          go_simp
          try rfl
        intro K hK
        go_simp
        refine hK _ ?_
        clear hK K
        apply wpT_get rfl
        · go_simp
        · intro wS hS
          go_simp
          try rfl
        intro K hK
        go_simp
        refine hK _ ?_
        clear hK K
        apply wpT_get rfl
        · go_simp
        · intro wS hS
          have x0 := Below.sub hS _ _ g0
          have x1 := Below.sub hS _ _ g1
          have x2 := Below.sub hS _ _ g2
          have x3 := Below.sub hS _ _ g3
          have x4 := Below.sub hS _ _ g4
          go_simp
          try rfl
        intro K hK
        go_simp
        refine hK _ ?_
        clear hK K
        apply wpT_get rfl
        · go_simp
        · intro wS hS
          have x0 := Below.sub hS _ _ v0
          have x1 := Below.sub hS _ _ v1
          have x2 := Below.sub hS _ _ v2
          have x3 := Below.sub hS _ _ v3
          have x4 := Below.sub hS _ _ v4
          go_simp
          try rfl
        intro K hK
        go_simp
        refine hK _ ?_
        clear hK K
        refine wpT_one rfl (fun K hK => ?_)
        go_wp2_with fail
        refine (keqTyV t t w3.drew _ _ (HVL.out.sub (Below.sub (Below.drew (Below.refl _ _)))) (HTV3.out.sub (Below.sub (Below.drew (Below.refl _ _))))).mono ?_
        rw [eqTy_self]
        rintro e w4 ⟨rfl, hb⟩
        have HB4 := Lib.hid (show Below w3.heap.size w3 w4 from (Below.drew (Below.refl _ _)).trans hb); clear hb
        go_wp2_with fail
        refine hK _ _ HB4.out ?_
        clear hK K
        apply wpT_get rfl
        · go_simp
        · intro wS hS
          go_simp
          try rfl
        intro K hK
        go_simp
        refine hK _ ?_
        clear hK K
        apply wpT_get rfl
        · go_simp
        · intro wS hS
          go_simp
          try rfl
        intro K hK
        go_simp
        refine hK _ ?_
        clear hK K
        apply wpT_get rfl
        · go_simp
        · intro wS hS
          have x0 := Below.sub hS _ _ p0
          have x1 := Below.sub hS _ _ p1
          have x2 := Below.sub hS _ _ p2
          have x3 := Below.sub hS _ _ p3
          have x4 := Below.sub hS _ _ p4
          go_simp
          try rfl
        intro K hK
        go_simp
        refine hK _ ?_
        clear hK K
        apply wpT_get rfl
        · go_simp
        · intro wS hS
          go_simp
          try rfl
        intro K hK
        go_simp
        refine hK _ ?_
        clear hK K
        apply wpT_get rfl
        · go_simp
        · intro wS hS
          go_simp
          try rfl
        intro K hK
        go_simp
        refine hK _ ?_
        clear hK K
        apply wpT_get rfl
        · go_simp
        · intro wS hS
          have x0 := Below.sub hS _ _ q0
          have x1 := Below.sub hS _ _ q1
          have x2 := Below.sub hS _ _ q2
          have x3 := Below.sub hS _ _ q3
          have x4 := Below.sub hS _ _ q4
          go_simp
          try rfl
        intro K hK
        go_simp
        refine hK _ ?_
        clear hK K
        have HB5 := Lib.hid (show Below w4.heap.size w4 (w4.alloc (.cells #[.string s] 9)) from (Below.refl w4.heap.size w4).alloc (Nat.le_refl _) _)
        have HB35 := Lib.hid (show Below w3.heap.size w3 (w4.alloc (.cells #[.string s] 9)) from HB4.out.trans (HB5.out.mono HB4.out.size))
        refine wpT_one rfl (fun K hK => ?_)
        go_wp2_with fail
        refine hK _ _ HB35.out ?_
        clear hK K
        have HPC := Lib.hid (putC (names := [s]) (ts := [t]) p (by rw [HPE.out, wrap_sz]; simp only [varT, Ty.sz, Ty.szL]; omega) (fun x hx => by rw [List.mem_singleton.1 hx]; have := HTZ.out; omega) (w4.alloc (.cells #[.string s] 9)) _ _ _ _ _ (HPV3.out.sub (Below.sub HB35.out)) (strs_one (alloc_at w4 _) HS.out) (HSL3.out.sub (Below.sub HB35.out)))
        have HPT := Lib.hid (show putTy [s] [t] p = a by rw [HPE.out, HAE.out]; exact wrap_put s t k)
        refine wpT_one rfl (fun K hK => ?_)
        go_wp2_with fail
        refine HPC.out.mono ?_
        rw [HPT.out]
        rintro e w6 ⟨vs, rfl, hv, hb⟩
        obtain ⟨F3, f3, F4, f4, rfl, y0, y1, y2, y3, y4⟩ := Ty.opn hv
        have HV6 := Lib.hid (hv.sub (new_sub _ _ _))
        have HB36 := Lib.hid (HB35.out.trans (hb.mono HB35.out.size))
        have HAV6 := Lib.hid (HAV3.out.sub (Below.sub HB36.out))
        clear hv hb y0 y1 y2 y3 y4
        go_wp2_with fail
        refine hK _ _ HB36.out ?_
        clear hK K
        refine wpT_one rfl (fun K hK => ?_)
        go_wp2_with fail
        refine (keqTyV a a w6 _ _ HV6.out HAV6.out).mono ?_
        rw [eqTy_self]
        rintro e w7 ⟨rfl, hb⟩
        have HB37 := Lib.hid (HB36.out.trans (hb.mono HB36.out.size)); clear hb
        go_wp2_with fail
        refine hK _ _ HB37.out ?_
        clear hK K
        apply wpT_get rfl
        · go_simp
        · intro wS hS
          go_simp
          try rfl
        intro K hK
        go_simp
        refine hK _ ?_
        clear hK K
        apply wpT_get rfl
        · go_simp
        · intro wS hS
          go_simp
          try rfl
        intro K hK
        go_simp
        refine hK _ ?_
        clear hK K
        refine wpT_doneN ?_
        go_wp2_with fail
        exact bodyPost_ret (results_tmp rfl _ _ _) rfl ⟨rfl, HB3.out.trans (HB37.out.mono HB3.out.size)⟩
end Go.Proofs.Ytiecbgclkdlpkaa
