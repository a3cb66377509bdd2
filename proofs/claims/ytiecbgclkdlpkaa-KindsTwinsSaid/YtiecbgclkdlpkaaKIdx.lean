/-
  Lists of texts; the walks of slices.Index, slices.Contains and of mortiseref7.place: where a text stands among others. The condition: the texts read.
-/
import Derived.Test.YtiecbgclkdlpkaaEqs
import Derived.Test.YtiecbgclkdlpkaaAns
import Derived.WalkLawsBesides
namespace Go.Proofs.Ytiecbgclkdlpkaa
open Go.RowKit
set_option linter.unusedVariables false

def strs (l : List ByteArray) : List (List D) := l.map fun s => [.str s]
theorem strs_length (l : List ByteArray) : (strs l).length = l.length := by simp [strs]
theorem strs_at {w : World} {l : List ByteArray} {A : Option Addr} (h : Elems w 1 (strs l) A) (k : Nat) (hk : k < l.length) : ∃ b o, A = some ⟨b, o, none⟩ ∧ w.cell? ⟨b, o + k, none⟩ = some (.string l[k]) ∧ l[k].size ≤ Reach := by
  obtain ⟨b, o, hA, hc⟩ := h.at k (by rw [strs_length]; exact hk)
  have e : (strs l)[k]'(by rw [strs_length]; exact hk) = [.str l[k]] := by simp [strs]
  rw [e, Nat.mul_one] at hc
  simp only [Cells, DV] at hc
  obtain ⟨⟨v, hv, rfl, hs⟩, _⟩ := hc
  exact ⟨b, o, hA, hv, hs⟩
/-- The first place of a text among others; as many as there are: none. -/
def placeN (l : List ByteArray) (s : ByteArray) : Nat := l.findIdx fun x => x.toList == s.toList
def placeI (l : List ByteArray) (s : ByteArray) : Int := if placeN l s < l.length then (placeN l s : Int) else -1
theorem placeN_lt {l : List ByteArray} {s : ByteArray} (h : placeN l s < l.length) : l[placeN l s] = s := by
  have := List.findIdx_getElem (w := h)
  exact (ba_list _ _).1 this
theorem placeI_hit {l : List ByteArray} {s : ByteArray} {k : Nat} (hk : k < l.length) (h : ∀ j (hj : j < l.length), j < k → (l[j].toList == s.toList) = false) (he : (l[k].toList == s.toList) = true) : placeI l s = k := by
  have : placeN l s = k := by
    refine (List.findIdx_eq hk).2 ⟨he, fun j hj => ?_⟩
    exact h j (by omega) hj
  unfold placeI
  rw [this, if_pos hk]
theorem placeI_none {l : List ByteArray} {s : ByteArray} (h : ∀ j (hj : j < l.length), (l[j].toList == s.toList) = false) : placeI l s = -1 := by
  have : placeN l s = l.length := by
    refine List.findIdx_eq_length.2 fun x hx => ?_
    obtain ⟨j, hj, rfl⟩ := List.getElem_of_mem hx
    simpa using h j hj
  unfold placeI
  rw [this, if_neg (Nat.lt_irrefl _)]

set_option maxRecDepth 100000 in
set_option maxHeartbeats 800000 in
theorem index_any (w : World) (l : List ByteArray) (A : Option Addr) (c : Nat) (hl : SL w 1 (strs l) l.length A c) (s : ByteArray) :
    Calls Try.prog 51 #[.slice A l.length c, .string s] w fun e w' => e = .returned (.int .i64 (placeI l s)) ∧ w = w' := by
  have hn := hl.2.2.1
  unfold Reach at hn
  have HL := Lib.hid hl; clear hl
  go_enter Try.func51, Try.ntmps51
  go_wp2_with fail
  go_loop [8] (fun i => ∃ k : Nat, k ≤ l.length ∧ i = .int .i64 k ∧ ∀ j (hj : j < l.length), j < k → (l[j].toList == s.toList) = false) (fun i => l.length - (intOf i).toNat)
  case atStart => exact ⟨0, Nat.zero_le _, rfl, fun j _ h => absurd h (Nat.not_lt_zero _)⟩
  case round =>
    obtain ⟨k, hk, rfl, hno⟩ := hrel
    have HN := Lib.hid hno; clear hno
    by_cases hlt : k < l.length
    · obtain ⟨b, o, hA, hc, _⟩ := strs_at HL.out.2.2.2 k hlt
      subst hA
      have hlt' : (k : Int) < l.length := by omega
      have hcm : (s.toList == l[k].toList) = (l[k].toList == s.toList) := BEq.comm
      cases z : (l[k].toList == s.toList) with
      | true =>
        rw [z] at hcm
        have HP := Lib.hid (placeI_hit hlt HN.out z)
        clear z
        go_wp2_with fail
        refine bodyPost_ret (results_tmp rfl _ _ _) rfl ⟨?_, rfl⟩
        rw [HP.out]; rfl
      | false =>
        rw [z] at hcm
        have HZ := Lib.hid z
        clear z
        go_wp2_with fail
        go_round
        case rel => exact ⟨k + 1, by omega, by go_num, fun j hj hjk => by
          by_cases e : j = k
          · subst e; exact HZ.out
          · exact HN.out j hj (by omega)⟩
        case measure => simp [intOf]; omega
    · have hlt' : ¬ (k : Int) < l.length := by omega
      have HP := Lib.hid (placeI_none (l := l) (s := s) fun j hj => HN.out j hj (by omega))
      go_wp2_with fail
      refine bodyPost_ret (results_tmp rfl _ _ _) rfl ⟨?_, rfl⟩
      rw [HP.out]; rfl

set_option maxRecDepth 100000 in
set_option maxHeartbeats 800000 in
theorem place_any (w : World) (l : List ByteArray) (A : Option Addr) (c : Nat) (hl : SL w 1 (strs l) l.length A c) (s : ByteArray) :
    Calls Try.prog 50 #[.slice A l.length c, .string s] w fun e w' => e = .returned (.int .i64 (placeI l s)) ∧ w = w' := by
  have hn := hl.2.2.1
  unfold Reach at hn
  have HL := Lib.hid hl; clear hl
  go_enter Try.func50, Try.ntmps50
  go_wp2_with fail
  go_loop [5] (fun i => ∃ k : Nat, k ≤ l.length ∧ i = .int .i64 k ∧ ∀ j (hj : j < l.length), j < k → (l[j].toList == s.toList) = false) (fun i => l.length - (intOf i).toNat)
  case atStart => exact ⟨0, Nat.zero_le _, rfl, fun j _ h => absurd h (Nat.not_lt_zero _)⟩
  case round =>
    obtain ⟨k, hk, rfl, hno⟩ := hrel
    have HN := Lib.hid hno; clear hno
    by_cases hlt : k < l.length
    · obtain ⟨b, o, hA, hc, _⟩ := strs_at HL.out.2.2.2 k hlt
      subst hA
      have hlt' : (k : Int) < l.length := by omega
      cases z : (l[k].toList == s.toList) with
      | true =>
        have HP := Lib.hid (placeI_hit hlt HN.out z)
        go_wp2_with fail
        refine bodyPost_ret (results_tmp rfl _ _ _) rfl ⟨?_, rfl⟩
        rw [HP.out]; rfl
      | false =>
        have HZ := Lib.hid z
        go_wp2_with fail
        go_round
        case rel => exact ⟨k + 1, by omega, by go_num, fun j hj hjk => by
          by_cases e : j = k
          · subst e; exact HZ.out
          · exact HN.out j hj (by omega)⟩
        case measure => simp [intOf]; omega
    · have hlt' : ¬ (k : Int) < l.length := by omega
      have HP := Lib.hid (placeI_none (l := l) (s := s) fun j hj => HN.out j hj (by omega))
      go_wp2_with fail
      refine bodyPost_ret (results_tmp rfl _ _ _) rfl ⟨?_, rfl⟩
      rw [HP.out]; rfl

set_option maxRecDepth 100000 in
set_option maxHeartbeats 800000 in
theorem contains_any (w : World) (l : List ByteArray) (A : Option Addr) (c : Nat) (hl : SL w 1 (strs l) l.length A c) (s : ByteArray) :
    Calls Try.prog 67 #[.slice A l.length c, .string s] w fun e w' => e = .returned (.bool (decide (placeN l s < l.length))) ∧ w = w' := by
  have HI := Lib.hid (index_any w l A c hl s); clear hl
  by_cases h : placeN l s < l.length
  · have HH := Lib.hid (show placeI l s = (placeN l s : Int) by unfold placeI; rw [if_pos h])
    rw [HH.out] at HI
    have HD := Lib.hid (decide_eq_true h); clear h
    go_enter Try.func67, Try.ntmps67
    go_wp2_with fail
    refine HI.out.mono ?_
    rintro e w' ⟨rfl, rfl⟩
    go_wp2_with fail
    refine bodyPost_ret (results_tmp rfl _ _ _) rfl ⟨?_, rfl⟩
    rw [HD.out]; simp
  · have HH := Lib.hid (show placeI l s = -1 by unfold placeI; rw [if_neg h])
    rw [HH.out] at HI
    have HD := Lib.hid (decide_eq_false h); clear h
    go_enter Try.func67, Try.ntmps67
    go_wp2_with fail
    refine HI.out.mono ?_
    rintro e w' ⟨rfl, rfl⟩
    go_wp2_with fail
    refine bodyPost_ret (results_tmp rfl _ _ _) rfl ⟨?_, rfl⟩
    rw [HD.out]; rfl
end Go.Proofs.Ytiecbgclkdlpkaa
