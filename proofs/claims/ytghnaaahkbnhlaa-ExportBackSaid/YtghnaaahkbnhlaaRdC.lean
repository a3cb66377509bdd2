/-
  The walks of export's takes: a list is read. The conditions: the reader stands (RdS); an element is read by a function that has its contract.
-/
import Derived.Test.YtghnaaahkbnhlaaRdB
namespace Go.Proofs.Ytghnaaahkbnhlaa
open Go.RowKit Go.Lib
set_option linter.unusedVariables false
set_option linter.unusedSimpArgs false

theorem own_grows {w wr : World} {b n size : Nat} {e : TypeId} {v : Value} {xs : List Value} (k : Chg (fun _ => False) w wr) (ho : w.ownsRow b e size v n xs) : wr.ownsRow b e size v n xs :=
  ho.kept ⟨k.os, k.tape, k.output, k.size, fun i hi _ => k.block i hi id⟩ (row := none) (by cases v.ownBlock <;> simp)
theorem own_apart {w wr : World} {b n size : Nat} {e : TypeId} {v : Value} {xs : List Value} {S : Nat → Prop} (k : Chg S w wr) (hS : ∀ i, S i → i < b) (ho : w.ownsRow b e size v n xs) : wr.ownsRow b e size v n xs := by
  refine ⟨ho.1, ho.2.imp id ?_⟩
  rintro ⟨g, cap, cur, h1, h2, h3, h4⟩
  exact ⟨g, cap, cur, h1, h2, k.heap h3 (fun q => by have := hS _ q; omega), h4⟩

theorem Try.inf44 : (Try.prog.info? 44).map (fun i => (i.zero, i.size, i.bytes)) = some (some (.agg #[.int .i64 0, .string ⟨#[]⟩, .string ⟨#[]⟩, .slice none 0 0, .slice none 0 0]), 5, 88) := by kernel_rfl
set_option maxRecDepth 100000 in
set_option maxHeartbeats 1600000 in
theorem takesTy_any (W0 w : World) (br : Nat) (dp : Int) (one : Pa Ty) (f : Nat) (hf : Enters f) (hone : RdOne W0 br dp one Ty.d f) (l : List UInt8) (h : RdS W0 w br l dp) :
    Calls Try.prog 98 #[.pointer (some ⟨br, 0, none⟩), .func (.func f) #[] #[]] w (RdP W0 br dp w (takesP one l) (ValL w Ty.d 5)) := by
  have H := Lib.hid h; have HO := Lib.hid hone; have HBR := Lib.hid h.lt; clear h hone
  have HF := hf; unfold Enters at hf; have HE := Lib.hid HF; clear HF
  go_enter Try.func98, Try.ntmps98
  go_wp2_with fail
  refine (rdcount_any W0 _ br l dp H.out).mono ?_
  intro e w1 he
  rcases he.split with ⟨n, l1, v, hp, rfl, rfl, hs, hc⟩ | ⟨hp, u, rfl, hc⟩
  case inr =>
    have HT := Lib.hid (show takesP one l = none by unfold takesP; rw [hp]; rfl)
    have HC := Lib.hid hc
    clear hp hc he
    go_wp2_with fail
    refine ⟨rfl, ?_⟩
    rw [HT.out]
    exact ⟨_, rfl, HC.out⟩
  have hn := countP_le hp
  have hl1 := hs.len
  have HT := Lib.hid (show takesP one l = timesP one n l1 by unfold takesP; rw [hp]; rfl)
  have hrow := RdRow.start (w := w) one Ty.d 5 44 (n := n) hs hc (by omega)
  clear hp hs hc he
  go_wp2_with fail
  go_loopw [5, 6] (fun v i wr => ∃ (m : Nat) (xs : List Ty) (segs : List (List Value)) (lr : List UInt8), i = .int .i64 m ∧ RdRow W0 w br dp one Ty.d 5 44 (timesP one n l1) m wr v xs segs lr) (fun v i _ => (intOf i).toNat)
  case atStart => exact ⟨n, [], [], l1, rfl, hrow⟩
  case round =>
    clear hrow
    obtain ⟨m, xs, segs, lr, rfl, hw⟩ := hrel
    obtain ⟨A, c, rfl⟩ := own_slice hw.own
    cases m with
    | zero =>
      have HV := Lib.hid hw.value
      have HW := Lib.hid hw
      clear hw
      go_wp2_with fail
      refine bodyPost_ret (results_tmp rfl _ _ _) rfl ?_
      rw [HT.out, HV.out.1]
      exact ⟨_, rfl, HV.out.2, HW.out.rd, HW.out.chg⟩
    | succ m =>
      have hpos : (0 : Int) < ((m + 1 : Nat) : Int) := by omega
      have hfew := hw.few
      have hm64 : ((m + 1 : Nat) : Int) ≤ 262144 := by omega
      have HW := Lib.hid hw
      clear hw
      go_wp2_with fail
      refine (HO.out _ lr HW.out.rd).mono ?_
      intro e w2 he
      rcases he.split with ⟨x, l2, v, hp, rfl, ⟨vs, rfl, hv⟩, hs, hc⟩ | ⟨hp, u, rfl, hc⟩
      case inr =>
        have HT2 := Lib.hid (show takesP one l = none by rw [HT.out]; exact HW.out.lost hp)
        have HC := Lib.hid (HW.out.chg.trans hc (fun _ _ e => e))
        clear hp hc he
        go_wp2_with fail
        refine ⟨rfl, ?_⟩
        rw [HT2.out]
        exact ⟨_, rfl, HC.out⟩
      have HV := Lib.hid hv
      obtain ⟨A3, c3, A4, c4, rfl, q0, q1, q2, q3, q4⟩ := Ty.opn hv
      clear hv he q0 q1 q2 q3 q4
      have hA : Chg (fun _ => False) w2 (w2.alloc (.cells #[.int .i64 x.kind, .string x.pkg, .string x.name, .slice A3 x.args.length c3, .slice A4 x.res.length c4] 44)) := (Chg.refl _ _).alloc _
      have ho2 : w2.ownsRow w.heap.size 44 5 (.slice A xs.length c) xs.length segs.flatten := own_apart hc (fun i q => by have := HBR.out; omega) HW.out.own
      have HOA := Lib.hid (own_grows hA ho2)
      have HSZ := Lib.hid (show w.heap.size ≤ (w2.alloc (.cells #[.int .i64 x.kind, .string x.pkg, .string x.name, .slice A3 x.args.length c3, .slice A4 x.res.length c4] 44)).heap.size from Nat.le_trans (Nat.le_trans HW.out.chg.size hc.size) hA.size)
      have HNE := Lib.hid (show ∀ (j : Nat) (u : Value), ([.int .i64 x.kind, .string x.pkg, .string x.name, .slice A3 x.args.length c3, .slice A4 x.res.length c4] : List Value)[j]? = some u → (w2.alloc (.cells #[.int .i64 x.kind, .string x.pkg, .string x.name, .slice A3 x.args.length c3, .slice A4 x.res.length c4] 44)).cell? ⟨w2.heap.size, j, none⟩ = some u from fun j u q => by rw [cell_at (alloc_at w2 _)]; simpa using q)
      have HONE := Lib.hid (show ∀ u ∈ ([.int .i64 x.kind, .string x.pkg, .string x.name, .slice A3 x.args.length c3, .slice A4 x.res.length c4] : List Value), u.oneCell' = true from fun u q => by simp at q; rcases q with rfl | rfl | rfl | rfl | rfl <;> rfl)
      have HLN := Lib.hid (show (xs.length + 1) * 88 ≤ 140737488355328 by omega)
      have HLM := Lib.hid (show xs.length + 1 ≤ maxLen by unfold maxLen; omega)
      have HS := Lib.hid hs; have HC := Lib.hid hc; have HP := Lib.hid hp; have HAA := Lib.hid hA
      clear hs hc hp hA ho2
      go_wp2_with (at_builtin; go_loud (refine wpList_append_rec _ rfl _ _ 42 rfl w.heap.size 44 (.agg #[.int .i64 0, .string ⟨#[]⟩, .string ⟨#[]⟩, .slice none 0 0, .slice none 0 0]) 5 88 Try.inf44 Try.underlying42 rfl (by omega) (.slice A xs.length c) xs.length segs.flatten rfl HOA.out w2.heap.size 1 ([.int .i64 x.kind, .string x.pkg, .string x.name, .slice A3 x.args.length c3, .slice A4 x.res.length c4]) rfl rfl HNE.out HONE.out HLN.out HLM.out HSZ.out ?_; intro v1 w3 h1 g1 r1; have HN := Lib.hid (RdRow.next HW.out HBR.out HP.out HS.out HC.out HV.out rfl HAA.out h1 g1 r1); obtain ⟨A1, k1, rfl⟩ := own_slice h1; clear h1 g1 r1))
      go_roundw
      case rel => exact ⟨m, xs ++ [x], _, l2, by go_num, HN.out⟩
      case measure => simp [intOf]; try omega
theorem Try.inf93 : (Try.prog.info? 93).map (fun i => (i.zero, i.size, i.bytes)) = some (some (.agg #[.string ⟨#[]⟩, .int .i64 0, .string ⟨#[]⟩, .string ⟨#[]⟩, .slice none 0 0, .slice none 0 0]), 6, 104) := by kernel_rfl
set_option maxRecDepth 100000 in
set_option maxHeartbeats 1600000 in
theorem takesFld_any (W0 w : World) (br : Nat) (dp : Int) (one : Pa Fld) (f : Nat) (hf : Enters f) (hone : RdOne W0 br dp one Fld.d f) (l : List UInt8) (h : RdS W0 w br l dp) :
    Calls Try.prog 72 #[.pointer (some ⟨br, 0, none⟩), .func (.func f) #[] #[]] w (RdP W0 br dp w (takesP one l) (ValL w Fld.d 6)) := by
  have H := Lib.hid h; have HO := Lib.hid hone; have HBR := Lib.hid h.lt; clear h hone
  have HF := hf; unfold Enters at hf; have HE := Lib.hid HF; clear HF
  go_enter Try.func72, Try.ntmps72
  go_wp2_with fail
  refine (rdcount_any W0 _ br l dp H.out).mono ?_
  intro e w1 he
  rcases he.split with ⟨n, l1, v, hp, rfl, rfl, hs, hc⟩ | ⟨hp, u, rfl, hc⟩
  case inr =>
    have HT := Lib.hid (show takesP one l = none by unfold takesP; rw [hp]; rfl)
    have HC := Lib.hid hc
    clear hp hc he
    go_wp2_with fail
    refine ⟨rfl, ?_⟩
    rw [HT.out]
    exact ⟨_, rfl, HC.out⟩
  have hn := countP_le hp
  have hl1 := hs.len
  have HT := Lib.hid (show takesP one l = timesP one n l1 by unfold takesP; rw [hp]; rfl)
  have hrow := RdRow.start (w := w) one Fld.d 6 93 (n := n) hs hc (by omega)
  clear hp hs hc he
  go_wp2_with fail
  go_loopw [5, 6] (fun v i wr => ∃ (m : Nat) (xs : List Fld) (segs : List (List Value)) (lr : List UInt8), i = .int .i64 m ∧ RdRow W0 w br dp one Fld.d 6 93 (timesP one n l1) m wr v xs segs lr) (fun v i _ => (intOf i).toNat)
  case atStart => exact ⟨n, [], [], l1, rfl, hrow⟩
  case round =>
    clear hrow
    obtain ⟨m, xs, segs, lr, rfl, hw⟩ := hrel
    obtain ⟨A, c, rfl⟩ := own_slice hw.own
    cases m with
    | zero =>
      have HV := Lib.hid hw.value
      have HW := Lib.hid hw
      clear hw
      go_wp2_with fail
      refine bodyPost_ret (results_tmp rfl _ _ _) rfl ?_
      rw [HT.out, HV.out.1]
      exact ⟨_, rfl, HV.out.2, HW.out.rd, HW.out.chg⟩
    | succ m =>
      have hpos : (0 : Int) < ((m + 1 : Nat) : Int) := by omega
      have hfew := hw.few
      have hm64 : ((m + 1 : Nat) : Int) ≤ 262144 := by omega
      have HW := Lib.hid hw
      clear hw
      go_wp2_with fail
      refine (HO.out _ lr HW.out.rd).mono ?_
      intro e w2 he
      rcases he.split with ⟨x, l2, v, hp, rfl, ⟨vs, rfl, hv⟩, hs, hc⟩ | ⟨hp, u, rfl, hc⟩
      case inr =>
        have HT2 := Lib.hid (show takesP one l = none by rw [HT.out]; exact HW.out.lost hp)
        have HC := Lib.hid (HW.out.chg.trans hc (fun _ _ e => e))
        clear hp hc he
        go_wp2_with fail
        refine ⟨rfl, ?_⟩
        rw [HT2.out]
        exact ⟨_, rfl, HC.out⟩
      have HV := Lib.hid hv
      obtain ⟨A4, c4, A5, c5, rfl, q0, q1, q2, q3, q4, q5⟩ := Fld.opn hv
      clear hv he q0 q1 q2 q3 q4 q5
      have hA : Chg (fun _ => False) w2 (w2.alloc (.cells #[.string x.name, .int .i64 x.type.kind, .string x.type.pkg, .string x.type.name, .slice A4 x.type.args.length c4, .slice A5 x.type.res.length c5] 93)) := (Chg.refl _ _).alloc _
      have ho2 : w2.ownsRow w.heap.size 93 6 (.slice A xs.length c) xs.length segs.flatten := own_apart hc (fun i q => by have := HBR.out; omega) HW.out.own
      have HOA := Lib.hid (own_grows hA ho2)
      have HSZ := Lib.hid (show w.heap.size ≤ (w2.alloc (.cells #[.string x.name, .int .i64 x.type.kind, .string x.type.pkg, .string x.type.name, .slice A4 x.type.args.length c4, .slice A5 x.type.res.length c5] 93)).heap.size from Nat.le_trans (Nat.le_trans HW.out.chg.size hc.size) hA.size)
      have HNE := Lib.hid (show ∀ (j : Nat) (u : Value), ([.string x.name, .int .i64 x.type.kind, .string x.type.pkg, .string x.type.name, .slice A4 x.type.args.length c4, .slice A5 x.type.res.length c5] : List Value)[j]? = some u → (w2.alloc (.cells #[.string x.name, .int .i64 x.type.kind, .string x.type.pkg, .string x.type.name, .slice A4 x.type.args.length c4, .slice A5 x.type.res.length c5] 93)).cell? ⟨w2.heap.size, j, none⟩ = some u from fun j u q => by rw [cell_at (alloc_at w2 _)]; simpa using q)
      have HONE := Lib.hid (show ∀ u ∈ ([.string x.name, .int .i64 x.type.kind, .string x.type.pkg, .string x.type.name, .slice A4 x.type.args.length c4, .slice A5 x.type.res.length c5] : List Value), u.oneCell' = true from fun u q => by simp at q; rcases q with rfl | rfl | rfl | rfl | rfl | rfl <;> rfl)
      have HLN := Lib.hid (show (xs.length + 1) * 104 ≤ 140737488355328 by omega)
      have HLM := Lib.hid (show xs.length + 1 ≤ maxLen by unfold maxLen; omega)
      have HS := Lib.hid hs; have HC := Lib.hid hc; have HP := Lib.hid hp; have HAA := Lib.hid hA
      clear hs hc hp hA ho2
      go_wp2_with (at_builtin; go_loud (refine wpList_append_rec _ rfl _ _ 45 rfl w.heap.size 93 (.agg #[.string ⟨#[]⟩, .int .i64 0, .string ⟨#[]⟩, .string ⟨#[]⟩, .slice none 0 0, .slice none 0 0]) 6 104 Try.inf93 Try.underlying45 rfl (by omega) (.slice A xs.length c) xs.length segs.flatten rfl HOA.out w2.heap.size 1 ([.string x.name, .int .i64 x.type.kind, .string x.type.pkg, .string x.type.name, .slice A4 x.type.args.length c4, .slice A5 x.type.res.length c5]) rfl rfl HNE.out HONE.out HLN.out HLM.out HSZ.out ?_; intro v1 w3 h1 g1 r1; have HN := Lib.hid (RdRow.next HW.out HBR.out HP.out HS.out HC.out HV.out rfl HAA.out h1 g1 r1); obtain ⟨A1, k1, rfl⟩ := own_slice h1; clear h1 g1 r1))
      go_roundw
      case rel => exact ⟨m, xs ++ [x], _, l2, by go_num, HN.out⟩
      case measure => simp [intOf]; try omega
theorem Try.inf58 : (Try.prog.info? 58).map (fun i => (i.zero, i.size, i.bytes)) = some (some (.agg #[.string ⟨#[]⟩, .int .i64 0]), 2, 24) := by kernel_rfl
set_option maxRecDepth 100000 in
set_option maxHeartbeats 1600000 in
theorem takesImp_any (W0 w : World) (br : Nat) (dp : Int) (one : Pa Imp) (f : Nat) (hf : Enters f) (hone : RdOne W0 br dp one Imp.d f) (l : List UInt8) (h : RdS W0 w br l dp) :
    Calls Try.prog 43 #[.pointer (some ⟨br, 0, none⟩), .func (.func f) #[] #[]] w (RdP W0 br dp w (takesP one l) (ValL w Imp.d 2)) := by
  have H := Lib.hid h; have HO := Lib.hid hone; have HBR := Lib.hid h.lt; clear h hone
  have HF := hf; unfold Enters at hf; have HE := Lib.hid HF; clear HF
  go_enter Try.func43, Try.ntmps43
  go_wp2_with fail
  refine (rdcount_any W0 _ br l dp H.out).mono ?_
  intro e w1 he
  rcases he.split with ⟨n, l1, v, hp, rfl, rfl, hs, hc⟩ | ⟨hp, u, rfl, hc⟩
  case inr =>
    have HT := Lib.hid (show takesP one l = none by unfold takesP; rw [hp]; rfl)
    have HC := Lib.hid hc
    clear hp hc he
    go_wp2_with fail
    refine ⟨rfl, ?_⟩
    rw [HT.out]
    exact ⟨_, rfl, HC.out⟩
  have hn := countP_le hp
  have hl1 := hs.len
  have HT := Lib.hid (show takesP one l = timesP one n l1 by unfold takesP; rw [hp]; rfl)
  have hrow := RdRow.start (w := w) one Imp.d 2 58 (n := n) hs hc (by omega)
  clear hp hs hc he
  go_wp2_with fail
  go_loopw [5, 6] (fun v i wr => ∃ (m : Nat) (xs : List Imp) (segs : List (List Value)) (lr : List UInt8), i = .int .i64 m ∧ RdRow W0 w br dp one Imp.d 2 58 (timesP one n l1) m wr v xs segs lr) (fun v i _ => (intOf i).toNat)
  case atStart => exact ⟨n, [], [], l1, rfl, hrow⟩
  case round =>
    clear hrow
    obtain ⟨m, xs, segs, lr, rfl, hw⟩ := hrel
    obtain ⟨A, c, rfl⟩ := own_slice hw.own
    cases m with
    | zero =>
      have HV := Lib.hid hw.value
      have HW := Lib.hid hw
      clear hw
      go_wp2_with fail
      refine bodyPost_ret (results_tmp rfl _ _ _) rfl ?_
      rw [HT.out, HV.out.1]
      exact ⟨_, rfl, HV.out.2, HW.out.rd, HW.out.chg⟩
    | succ m =>
      have hpos : (0 : Int) < ((m + 1 : Nat) : Int) := by omega
      have hfew := hw.few
      have hm64 : ((m + 1 : Nat) : Int) ≤ 262144 := by omega
      have HW := Lib.hid hw
      clear hw
      go_wp2_with fail
      refine (HO.out _ lr HW.out.rd).mono ?_
      intro e w2 he
      rcases he.split with ⟨x, l2, v, hp, rfl, ⟨vs, rfl, hv⟩, hs, hc⟩ | ⟨hp, u, rfl, hc⟩
      case inr =>
        have HT2 := Lib.hid (show takesP one l = none by rw [HT.out]; exact HW.out.lost hp)
        have HC := Lib.hid (HW.out.chg.trans hc (fun _ _ e => e))
        clear hp hc he
        go_wp2_with fail
        refine ⟨rfl, ?_⟩
        rw [HT2.out]
        exact ⟨_, rfl, HC.out⟩
      have HV := Lib.hid hv
      obtain ⟨rfl, q0, q1⟩ := Imp.opn hv
      clear hv he q0 q1
      have hA : Chg (fun _ => False) w2 (w2.alloc (.cells #[.string x.name, .int .i64 x.hash] 58)) := (Chg.refl _ _).alloc _
      have ho2 : w2.ownsRow w.heap.size 58 2 (.slice A xs.length c) xs.length segs.flatten := own_apart hc (fun i q => by have := HBR.out; omega) HW.out.own
      have HOA := Lib.hid (own_grows hA ho2)
      have HSZ := Lib.hid (show w.heap.size ≤ (w2.alloc (.cells #[.string x.name, .int .i64 x.hash] 58)).heap.size from Nat.le_trans (Nat.le_trans HW.out.chg.size hc.size) hA.size)
      have HNE := Lib.hid (show ∀ (j : Nat) (u : Value), ([.string x.name, .int .i64 x.hash] : List Value)[j]? = some u → (w2.alloc (.cells #[.string x.name, .int .i64 x.hash] 58)).cell? ⟨w2.heap.size, j, none⟩ = some u from fun j u q => by rw [cell_at (alloc_at w2 _)]; simpa using q)
      have HONE := Lib.hid (show ∀ u ∈ ([.string x.name, .int .i64 x.hash] : List Value), u.oneCell' = true from fun u q => by simp at q; rcases q with rfl | rfl <;> rfl)
      have HLN := Lib.hid (show (xs.length + 1) * 24 ≤ 140737488355328 by omega)
      have HLM := Lib.hid (show xs.length + 1 ≤ maxLen by unfold maxLen; omega)
      have HS := Lib.hid hs; have HC := Lib.hid hc; have HP := Lib.hid hp; have HAA := Lib.hid hA
      clear hs hc hp hA ho2
      go_wp2_with (at_builtin; go_loud (refine wpList_append_rec _ rfl _ _ 26 rfl w.heap.size 58 (.agg #[.string ⟨#[]⟩, .int .i64 0]) 2 24 Try.inf58 Try.underlying26 rfl (by omega) (.slice A xs.length c) xs.length segs.flatten rfl HOA.out w2.heap.size 1 ([.string x.name, .int .i64 x.hash]) rfl rfl HNE.out HONE.out HLN.out HLM.out HSZ.out ?_; intro v1 w3 h1 g1 r1; have HN := Lib.hid (RdRow.next HW.out HBR.out HP.out HS.out HC.out HV.out rfl HAA.out h1 g1 r1); obtain ⟨A1, k1, rfl⟩ := own_slice h1; clear h1 g1 r1))
      go_roundw
      case rel => exact ⟨m, xs ++ [x], _, l2, by go_num, HN.out⟩
      case measure => simp [intOf]; try omega
theorem Try.inf47 : (Try.prog.info? 47).map (fun i => (i.zero, i.size, i.bytes)) = some (some (.agg #[.int .i64 0, .string ⟨#[]⟩, .string ⟨#[]⟩, .int .i64 0, .int .i64 0, .string ⟨#[]⟩, .string ⟨#[]⟩, .slice none 0 0, .slice none 0 0, .slice none 0 0]), 10, 160) := by kernel_rfl
set_option maxRecDepth 100000 in
set_option maxHeartbeats 1600000 in
theorem takesDcl_any (W0 w : World) (br : Nat) (dp : Int) (one : Pa Dcl) (f : Nat) (hf : Enters f) (hone : RdOne W0 br dp one Dcl.d f) (l : List UInt8) (h : RdS W0 w br l dp) :
    Calls Try.prog 45 #[.pointer (some ⟨br, 0, none⟩), .func (.func f) #[] #[]] w (RdP W0 br dp w (takesP one l) (ValL w Dcl.d 10)) := by
  have H := Lib.hid h; have HO := Lib.hid hone; have HBR := Lib.hid h.lt; clear h hone
  have HF := hf; unfold Enters at hf; have HE := Lib.hid HF; clear HF
  go_enter Try.func45, Try.ntmps45
  go_wp2_with fail
  refine (rdcount_any W0 _ br l dp H.out).mono ?_
  intro e w1 he
  rcases he.split with ⟨n, l1, v, hp, rfl, rfl, hs, hc⟩ | ⟨hp, u, rfl, hc⟩
  case inr =>
    have HT := Lib.hid (show takesP one l = none by unfold takesP; rw [hp]; rfl)
    have HC := Lib.hid hc
    clear hp hc he
    go_wp2_with fail
    refine ⟨rfl, ?_⟩
    rw [HT.out]
    exact ⟨_, rfl, HC.out⟩
  have hn := countP_le hp
  have hl1 := hs.len
  have HT := Lib.hid (show takesP one l = timesP one n l1 by unfold takesP; rw [hp]; rfl)
  have hrow := RdRow.start (w := w) one Dcl.d 10 47 (n := n) hs hc (by omega)
  clear hp hs hc he
  go_wp2_with fail
  go_loopw [5, 6] (fun v i wr => ∃ (m : Nat) (xs : List Dcl) (segs : List (List Value)) (lr : List UInt8), i = .int .i64 m ∧ RdRow W0 w br dp one Dcl.d 10 47 (timesP one n l1) m wr v xs segs lr) (fun v i _ => (intOf i).toNat)
  case atStart => exact ⟨n, [], [], l1, rfl, hrow⟩
  case round =>
    clear hrow
    obtain ⟨m, xs, segs, lr, rfl, hw⟩ := hrel
    obtain ⟨A, c, rfl⟩ := own_slice hw.own
    cases m with
    | zero =>
      have HV := Lib.hid hw.value
      have HW := Lib.hid hw
      clear hw
      go_wp2_with fail
      refine bodyPost_ret (results_tmp rfl _ _ _) rfl ?_
      rw [HT.out, HV.out.1]
      exact ⟨_, rfl, HV.out.2, HW.out.rd, HW.out.chg⟩
    | succ m =>
      have hpos : (0 : Int) < ((m + 1 : Nat) : Int) := by omega
      have hfew := hw.few
      have hm64 : ((m + 1 : Nat) : Int) ≤ 262144 := by omega
      have HW := Lib.hid hw
      clear hw
      go_wp2_with fail
      refine (HO.out _ lr HW.out.rd).mono ?_
      intro e w2 he
      rcases he.split with ⟨x, l2, v, hp, rfl, ⟨vs, rfl, hv⟩, hs, hc⟩ | ⟨hp, u, rfl, hc⟩
      case inr =>
        have HT2 := Lib.hid (show takesP one l = none by rw [HT.out]; exact HW.out.lost hp)
        have HC := Lib.hid (HW.out.chg.trans hc (fun _ _ e => e))
        clear hp hc he
        go_wp2_with fail
        refine ⟨rfl, ?_⟩
        rw [HT2.out]
        exact ⟨_, rfl, HC.out⟩
      have HV := Lib.hid hv
      obtain ⟨A7, c7, A8, c8, A9, c9, rfl, q0, q1, q2, q3, q4, q5, q6, q7, q8, q9⟩ := Dcl.opn hv
      clear hv he q0 q1 q2 q3 q4 q5 q6 q7 q8 q9
      have hA : Chg (fun _ => False) w2 (w2.alloc (.cells #[.int .i64 x.kind, .string x.name, .string x.of, .int .i64 x.value, .int .i64 x.type.kind, .string x.type.pkg, .string x.type.name, .slice A7 x.type.args.length c7, .slice A8 x.type.res.length c8, .slice A9 x.fields.length c9] 47)) := (Chg.refl _ _).alloc _
      have ho2 : w2.ownsRow w.heap.size 47 10 (.slice A xs.length c) xs.length segs.flatten := own_apart hc (fun i q => by have := HBR.out; omega) HW.out.own
      have HOA := Lib.hid (own_grows hA ho2)
      have HSZ := Lib.hid (show w.heap.size ≤ (w2.alloc (.cells #[.int .i64 x.kind, .string x.name, .string x.of, .int .i64 x.value, .int .i64 x.type.kind, .string x.type.pkg, .string x.type.name, .slice A7 x.type.args.length c7, .slice A8 x.type.res.length c8, .slice A9 x.fields.length c9] 47)).heap.size from Nat.le_trans (Nat.le_trans HW.out.chg.size hc.size) hA.size)
      have HNE := Lib.hid (show ∀ (j : Nat) (u : Value), ([.int .i64 x.kind, .string x.name, .string x.of, .int .i64 x.value, .int .i64 x.type.kind, .string x.type.pkg, .string x.type.name, .slice A7 x.type.args.length c7, .slice A8 x.type.res.length c8, .slice A9 x.fields.length c9] : List Value)[j]? = some u → (w2.alloc (.cells #[.int .i64 x.kind, .string x.name, .string x.of, .int .i64 x.value, .int .i64 x.type.kind, .string x.type.pkg, .string x.type.name, .slice A7 x.type.args.length c7, .slice A8 x.type.res.length c8, .slice A9 x.fields.length c9] 47)).cell? ⟨w2.heap.size, j, none⟩ = some u from fun j u q => by rw [cell_at (alloc_at w2 _)]; simpa using q)
      have HONE := Lib.hid (show ∀ u ∈ ([.int .i64 x.kind, .string x.name, .string x.of, .int .i64 x.value, .int .i64 x.type.kind, .string x.type.pkg, .string x.type.name, .slice A7 x.type.args.length c7, .slice A8 x.type.res.length c8, .slice A9 x.fields.length c9] : List Value), u.oneCell' = true from fun u q => by simp at q; rcases q with rfl | rfl | rfl | rfl | rfl | rfl | rfl | rfl | rfl | rfl <;> rfl)
      have HLN := Lib.hid (show (xs.length + 1) * 160 ≤ 140737488355328 by omega)
      have HLM := Lib.hid (show xs.length + 1 ≤ maxLen by unfold maxLen; omega)
      have HS := Lib.hid hs; have HC := Lib.hid hc; have HP := Lib.hid hp; have HAA := Lib.hid hA
      clear hs hc hp hA ho2
      go_wp2_with (at_builtin; go_loud (refine wpList_append_rec _ rfl _ _ 27 rfl w.heap.size 47 (.agg #[.int .i64 0, .string ⟨#[]⟩, .string ⟨#[]⟩, .int .i64 0, .int .i64 0, .string ⟨#[]⟩, .string ⟨#[]⟩, .slice none 0 0, .slice none 0 0, .slice none 0 0]) 10 160 Try.inf47 Try.underlying27 rfl (by omega) (.slice A xs.length c) xs.length segs.flatten rfl HOA.out w2.heap.size 1 ([.int .i64 x.kind, .string x.name, .string x.of, .int .i64 x.value, .int .i64 x.type.kind, .string x.type.pkg, .string x.type.name, .slice A7 x.type.args.length c7, .slice A8 x.type.res.length c8, .slice A9 x.fields.length c9]) rfl rfl HNE.out HONE.out HLN.out HLM.out HSZ.out ?_; intro v1 w3 h1 g1 r1; have HN := Lib.hid (RdRow.next HW.out HBR.out HP.out HS.out HC.out HV.out rfl HAA.out h1 g1 r1); obtain ⟨A1, k1, rfl⟩ := own_slice h1; clear h1 g1 r1))
      go_roundw
      case rel => exact ⟨m, xs ++ [x], _, l2, by go_num, HN.out⟩
      case measure => simp [intOf]; try omega
theorem Try.inf132 : (Try.prog.info? 132).map (fun i => (i.zero, i.size, i.bytes)) = some (some (.agg #[.int .i64 0, .int .i64 0, .string ⟨#[]⟩, .slice none 0 0]), 4, 56) := by kernel_rfl
set_option maxRecDepth 100000 in
set_option maxHeartbeats 1600000 in
theorem takesEx_any (W0 w : World) (br : Nat) (dp : Int) (one : Pa Ex) (f : Nat) (hf : Enters f) (hone : RdOne W0 br dp one Ex.d f) (l : List UInt8) (h : RdS W0 w br l dp) :
    Calls Try.prog 101 #[.pointer (some ⟨br, 0, none⟩), .func (.func f) #[] #[]] w (RdP W0 br dp w (takesP one l) (ValL w Ex.d 4)) := by
  have H := Lib.hid h; have HO := Lib.hid hone; have HBR := Lib.hid h.lt; clear h hone
  have HF := hf; unfold Enters at hf; have HE := Lib.hid HF; clear HF
  go_enter Try.func101, Try.ntmps101
  go_wp2_with fail
  refine (rdcount_any W0 _ br l dp H.out).mono ?_
  intro e w1 he
  rcases he.split with ⟨n, l1, v, hp, rfl, rfl, hs, hc⟩ | ⟨hp, u, rfl, hc⟩
  case inr =>
    have HT := Lib.hid (show takesP one l = none by unfold takesP; rw [hp]; rfl)
    have HC := Lib.hid hc
    clear hp hc he
    go_wp2_with fail
    refine ⟨rfl, ?_⟩
    rw [HT.out]
    exact ⟨_, rfl, HC.out⟩
  have hn := countP_le hp
  have hl1 := hs.len
  have HT := Lib.hid (show takesP one l = timesP one n l1 by unfold takesP; rw [hp]; rfl)
  have hrow := RdRow.start (w := w) one Ex.d 4 132 (n := n) hs hc (by omega)
  clear hp hs hc he
  go_wp2_with fail
  go_loopw [5, 6] (fun v i wr => ∃ (m : Nat) (xs : List Ex) (segs : List (List Value)) (lr : List UInt8), i = .int .i64 m ∧ RdRow W0 w br dp one Ex.d 4 132 (timesP one n l1) m wr v xs segs lr) (fun v i _ => (intOf i).toNat)
  case atStart => exact ⟨n, [], [], l1, rfl, hrow⟩
  case round =>
    clear hrow
    obtain ⟨m, xs, segs, lr, rfl, hw⟩ := hrel
    obtain ⟨A, c, rfl⟩ := own_slice hw.own
    cases m with
    | zero =>
      have HV := Lib.hid hw.value
      have HW := Lib.hid hw
      clear hw
      go_wp2_with fail
      refine bodyPost_ret (results_tmp rfl _ _ _) rfl ?_
      rw [HT.out, HV.out.1]
      exact ⟨_, rfl, HV.out.2, HW.out.rd, HW.out.chg⟩
    | succ m =>
      have hpos : (0 : Int) < ((m + 1 : Nat) : Int) := by omega
      have hfew := hw.few
      have hm64 : ((m + 1 : Nat) : Int) ≤ 262144 := by omega
      have HW := Lib.hid hw
      clear hw
      go_wp2_with fail
      refine (HO.out _ lr HW.out.rd).mono ?_
      intro e w2 he
      rcases he.split with ⟨x, l2, v, hp, rfl, ⟨vs, rfl, hv⟩, hs, hc⟩ | ⟨hp, u, rfl, hc⟩
      case inr =>
        have HT2 := Lib.hid (show takesP one l = none by rw [HT.out]; exact HW.out.lost hp)
        have HC := Lib.hid (HW.out.chg.trans hc (fun _ _ e => e))
        clear hp hc he
        go_wp2_with fail
        refine ⟨rfl, ?_⟩
        rw [HT2.out]
        exact ⟨_, rfl, HC.out⟩
      have HV := Lib.hid hv
      obtain ⟨A3, c3, rfl, q0, q1, q2, q3⟩ := Ex.opn hv
      clear hv he q0 q1 q2 q3
      have hA : Chg (fun _ => False) w2 (w2.alloc (.cells #[.int .i64 x.op, .int .i64 x.n, .string x.name, .slice A3 x.kids.length c3] 132)) := (Chg.refl _ _).alloc _
      have ho2 : w2.ownsRow w.heap.size 132 4 (.slice A xs.length c) xs.length segs.flatten := own_apart hc (fun i q => by have := HBR.out; omega) HW.out.own
      have HOA := Lib.hid (own_grows hA ho2)
      have HSZ := Lib.hid (show w.heap.size ≤ (w2.alloc (.cells #[.int .i64 x.op, .int .i64 x.n, .string x.name, .slice A3 x.kids.length c3] 132)).heap.size from Nat.le_trans (Nat.le_trans HW.out.chg.size hc.size) hA.size)
      have HNE := Lib.hid (show ∀ (j : Nat) (u : Value), ([.int .i64 x.op, .int .i64 x.n, .string x.name, .slice A3 x.kids.length c3] : List Value)[j]? = some u → (w2.alloc (.cells #[.int .i64 x.op, .int .i64 x.n, .string x.name, .slice A3 x.kids.length c3] 132)).cell? ⟨w2.heap.size, j, none⟩ = some u from fun j u q => by rw [cell_at (alloc_at w2 _)]; simpa using q)
      have HONE := Lib.hid (show ∀ u ∈ ([.int .i64 x.op, .int .i64 x.n, .string x.name, .slice A3 x.kids.length c3] : List Value), u.oneCell' = true from fun u q => by simp at q; rcases q with rfl | rfl | rfl | rfl <;> rfl)
      have HLN := Lib.hid (show (xs.length + 1) * 56 ≤ 140737488355328 by omega)
      have HLM := Lib.hid (show xs.length + 1 ≤ maxLen by unfold maxLen; omega)
      have HS := Lib.hid hs; have HC := Lib.hid hc; have HP := Lib.hid hp; have HAA := Lib.hid hA
      clear hs hc hp hA ho2
      go_wp2_with (at_builtin; go_loud (refine wpList_append_rec _ rfl _ _ 99 rfl w.heap.size 132 (.agg #[.int .i64 0, .int .i64 0, .string ⟨#[]⟩, .slice none 0 0]) 4 56 Try.inf132 Try.underlying99 rfl (by omega) (.slice A xs.length c) xs.length segs.flatten rfl HOA.out w2.heap.size 1 ([.int .i64 x.op, .int .i64 x.n, .string x.name, .slice A3 x.kids.length c3]) rfl rfl HNE.out HONE.out HLN.out HLM.out HSZ.out ?_; intro v1 w3 h1 g1 r1; have HN := Lib.hid (RdRow.next HW.out HBR.out HP.out HS.out HC.out HV.out rfl HAA.out h1 g1 r1); obtain ⟨A1, k1, rfl⟩ := own_slice h1; clear h1 g1 r1))
      go_roundw
      case rel => exact ⟨m, xs ++ [x], _, l2, by go_num, HN.out⟩
      case measure => simp [intOf]; try omega
theorem Try.inf101 : (Try.prog.info? 101).map (fun i => (i.zero, i.size, i.bytes)) = some (some (.agg #[.int .i64 0, .int .i64 0, .slice none 0 0, .slice none 0 0, .slice none 0 0]), 5, 88) := by kernel_rfl
set_option maxRecDepth 100000 in
set_option maxHeartbeats 1600000 in
theorem takesSt_any (W0 w : World) (br : Nat) (dp : Int) (one : Pa St) (f : Nat) (hf : Enters f) (hone : RdOne W0 br dp one St.d f) (l : List UInt8) (h : RdS W0 w br l dp) :
    Calls Try.prog 75 #[.pointer (some ⟨br, 0, none⟩), .func (.func f) #[] #[]] w (RdP W0 br dp w (takesP one l) (ValL w St.d 5)) := by
  have H := Lib.hid h; have HO := Lib.hid hone; have HBR := Lib.hid h.lt; clear h hone
  have HF := hf; unfold Enters at hf; have HE := Lib.hid HF; clear HF
  go_enter Try.func75, Try.ntmps75
  go_wp2_with fail
  refine (rdcount_any W0 _ br l dp H.out).mono ?_
  intro e w1 he
  rcases he.split with ⟨n, l1, v, hp, rfl, rfl, hs, hc⟩ | ⟨hp, u, rfl, hc⟩
  case inr =>
    have HT := Lib.hid (show takesP one l = none by unfold takesP; rw [hp]; rfl)
    have HC := Lib.hid hc
    clear hp hc he
    go_wp2_with fail
    refine ⟨rfl, ?_⟩
    rw [HT.out]
    exact ⟨_, rfl, HC.out⟩
  have hn := countP_le hp
  have hl1 := hs.len
  have HT := Lib.hid (show takesP one l = timesP one n l1 by unfold takesP; rw [hp]; rfl)
  have hrow := RdRow.start (w := w) one St.d 5 101 (n := n) hs hc (by omega)
  clear hp hs hc he
  go_wp2_with fail
  go_loopw [5, 6] (fun v i wr => ∃ (m : Nat) (xs : List St) (segs : List (List Value)) (lr : List UInt8), i = .int .i64 m ∧ RdRow W0 w br dp one St.d 5 101 (timesP one n l1) m wr v xs segs lr) (fun v i _ => (intOf i).toNat)
  case atStart => exact ⟨n, [], [], l1, rfl, hrow⟩
  case round =>
    clear hrow
    obtain ⟨m, xs, segs, lr, rfl, hw⟩ := hrel
    obtain ⟨A, c, rfl⟩ := own_slice hw.own
    cases m with
    | zero =>
      have HV := Lib.hid hw.value
      have HW := Lib.hid hw
      clear hw
      go_wp2_with fail
      refine bodyPost_ret (results_tmp rfl _ _ _) rfl ?_
      rw [HT.out, HV.out.1]
      exact ⟨_, rfl, HV.out.2, HW.out.rd, HW.out.chg⟩
    | succ m =>
      have hpos : (0 : Int) < ((m + 1 : Nat) : Int) := by omega
      have hfew := hw.few
      have hm64 : ((m + 1 : Nat) : Int) ≤ 262144 := by omega
      have HW := Lib.hid hw
      clear hw
      go_wp2_with fail
      refine (HO.out _ lr HW.out.rd).mono ?_
      intro e w2 he
      rcases he.split with ⟨x, l2, v, hp, rfl, ⟨vs, rfl, hv⟩, hs, hc⟩ | ⟨hp, u, rfl, hc⟩
      case inr =>
        have HT2 := Lib.hid (show takesP one l = none by rw [HT.out]; exact HW.out.lost hp)
        have HC := Lib.hid (HW.out.chg.trans hc (fun _ _ e => e))
        clear hp hc he
        go_wp2_with fail
        refine ⟨rfl, ?_⟩
        rw [HT2.out]
        exact ⟨_, rfl, HC.out⟩
      have HV := Lib.hid hv
      obtain ⟨A2, c2, A3, c3, A4, c4, rfl, q0, q1, q2, q3, q4⟩ := St.opn hv
      clear hv he q0 q1 q2 q3 q4
      have hA : Chg (fun _ => False) w2 (w2.alloc (.cells #[.int .i64 x.op, .int .i64 x.n, .slice A2 x.exprs.length c2, .slice A3 x.body.length c3, .slice A4 x.els.length c4] 101)) := (Chg.refl _ _).alloc _
      have ho2 : w2.ownsRow w.heap.size 101 5 (.slice A xs.length c) xs.length segs.flatten := own_apart hc (fun i q => by have := HBR.out; omega) HW.out.own
      have HOA := Lib.hid (own_grows hA ho2)
      have HSZ := Lib.hid (show w.heap.size ≤ (w2.alloc (.cells #[.int .i64 x.op, .int .i64 x.n, .slice A2 x.exprs.length c2, .slice A3 x.body.length c3, .slice A4 x.els.length c4] 101)).heap.size from Nat.le_trans (Nat.le_trans HW.out.chg.size hc.size) hA.size)
      have HNE := Lib.hid (show ∀ (j : Nat) (u : Value), ([.int .i64 x.op, .int .i64 x.n, .slice A2 x.exprs.length c2, .slice A3 x.body.length c3, .slice A4 x.els.length c4] : List Value)[j]? = some u → (w2.alloc (.cells #[.int .i64 x.op, .int .i64 x.n, .slice A2 x.exprs.length c2, .slice A3 x.body.length c3, .slice A4 x.els.length c4] 101)).cell? ⟨w2.heap.size, j, none⟩ = some u from fun j u q => by rw [cell_at (alloc_at w2 _)]; simpa using q)
      have HONE := Lib.hid (show ∀ u ∈ ([.int .i64 x.op, .int .i64 x.n, .slice A2 x.exprs.length c2, .slice A3 x.body.length c3, .slice A4 x.els.length c4] : List Value), u.oneCell' = true from fun u q => by simp at q; rcases q with rfl | rfl | rfl | rfl | rfl <;> rfl)
      have HLN := Lib.hid (show (xs.length + 1) * 88 ≤ 140737488355328 by omega)
      have HLM := Lib.hid (show xs.length + 1 ≤ maxLen by unfold maxLen; omega)
      have HS := Lib.hid hs; have HC := Lib.hid hc; have HP := Lib.hid hp; have HAA := Lib.hid hA
      clear hs hc hp hA ho2
      go_wp2_with (at_builtin; go_loud (refine wpList_append_rec _ rfl _ _ 65 rfl w.heap.size 101 (.agg #[.int .i64 0, .int .i64 0, .slice none 0 0, .slice none 0 0, .slice none 0 0]) 5 88 Try.inf101 Try.underlying65 rfl (by omega) (.slice A xs.length c) xs.length segs.flatten rfl HOA.out w2.heap.size 1 ([.int .i64 x.op, .int .i64 x.n, .slice A2 x.exprs.length c2, .slice A3 x.body.length c3, .slice A4 x.els.length c4]) rfl rfl HNE.out HONE.out HLN.out HLM.out HSZ.out ?_; intro v1 w3 h1 g1 r1; have HN := Lib.hid (RdRow.next HW.out HBR.out HP.out HS.out HC.out HV.out rfl HAA.out h1 g1 r1); obtain ⟨A1, k1, rfl⟩ := own_slice h1; clear h1 g1 r1))
      go_roundw
      case rel => exact ⟨m, xs ++ [x], _, l2, by go_num, HN.out⟩
      case measure => simp [intOf]; try omega
theorem Try.inf67 : (Try.prog.info? 67).map (fun i => (i.zero, i.size, i.bytes)) = some (some (.agg #[.string ⟨#[]⟩, .bool false, .int .i64 0, .int .i64 0, .slice none 0 0]), 5, 64) := by kernel_rfl
set_option maxRecDepth 100000 in
set_option maxHeartbeats 1600000 in
theorem takesFn_any (W0 w : World) (br : Nat) (dp : Int) (one : Pa Fn) (f : Nat) (hf : Enters f) (hone : RdOne W0 br dp one Fn.d f) (l : List UInt8) (h : RdS W0 w br l dp) :
    Calls Try.prog 47 #[.pointer (some ⟨br, 0, none⟩), .func (.func f) #[] #[]] w (RdP W0 br dp w (takesP one l) (ValL w Fn.d 5)) := by
  have H := Lib.hid h; have HO := Lib.hid hone; have HBR := Lib.hid h.lt; clear h hone
  have HF := hf; unfold Enters at hf; have HE := Lib.hid HF; clear HF
  go_enter Try.func47, Try.ntmps47
  go_wp2_with fail
  refine (rdcount_any W0 _ br l dp H.out).mono ?_
  intro e w1 he
  rcases he.split with ⟨n, l1, v, hp, rfl, rfl, hs, hc⟩ | ⟨hp, u, rfl, hc⟩
  case inr =>
    have HT := Lib.hid (show takesP one l = none by unfold takesP; rw [hp]; rfl)
    have HC := Lib.hid hc
    clear hp hc he
    go_wp2_with fail
    refine ⟨rfl, ?_⟩
    rw [HT.out]
    exact ⟨_, rfl, HC.out⟩
  have hn := countP_le hp
  have hl1 := hs.len
  have HT := Lib.hid (show takesP one l = timesP one n l1 by unfold takesP; rw [hp]; rfl)
  have hrow := RdRow.start (w := w) one Fn.d 5 67 (n := n) hs hc (by omega)
  clear hp hs hc he
  go_wp2_with fail
  go_loopw [5, 6] (fun v i wr => ∃ (m : Nat) (xs : List Fn) (segs : List (List Value)) (lr : List UInt8), i = .int .i64 m ∧ RdRow W0 w br dp one Fn.d 5 67 (timesP one n l1) m wr v xs segs lr) (fun v i _ => (intOf i).toNat)
  case atStart => exact ⟨n, [], [], l1, rfl, hrow⟩
  case round =>
    clear hrow
    obtain ⟨m, xs, segs, lr, rfl, hw⟩ := hrel
    obtain ⟨A, c, rfl⟩ := own_slice hw.own
    cases m with
    | zero =>
      have HV := Lib.hid hw.value
      have HW := Lib.hid hw
      clear hw
      go_wp2_with fail
      refine bodyPost_ret (results_tmp rfl _ _ _) rfl ?_
      rw [HT.out, HV.out.1]
      exact ⟨_, rfl, HV.out.2, HW.out.rd, HW.out.chg⟩
    | succ m =>
      have hpos : (0 : Int) < ((m + 1 : Nat) : Int) := by omega
      have hfew := hw.few
      have hm64 : ((m + 1 : Nat) : Int) ≤ 262144 := by omega
      have HW := Lib.hid hw
      clear hw
      go_wp2_with fail
      refine (HO.out _ lr HW.out.rd).mono ?_
      intro e w2 he
      rcases he.split with ⟨x, l2, v, hp, rfl, ⟨vs, rfl, hv⟩, hs, hc⟩ | ⟨hp, u, rfl, hc⟩
      case inr =>
        have HT2 := Lib.hid (show takesP one l = none by rw [HT.out]; exact HW.out.lost hp)
        have HC := Lib.hid (HW.out.chg.trans hc (fun _ _ e => e))
        clear hp hc he
        go_wp2_with fail
        refine ⟨rfl, ?_⟩
        rw [HT2.out]
        exact ⟨_, rfl, HC.out⟩
      have HV := Lib.hid hv
      obtain ⟨A4, c4, rfl, q0, q2, q3, q4⟩ := Fn.opn hv
      clear hv he q0 q2 q3 q4
      have hA : Chg (fun _ => False) w2 (w2.alloc (.cells #[.string x.name, .bool x.weak, .int .i64 x.params, .int .i64 x.locals, .slice A4 x.body.length c4] 67)) := (Chg.refl _ _).alloc _
      have ho2 : w2.ownsRow w.heap.size 67 5 (.slice A xs.length c) xs.length segs.flatten := own_apart hc (fun i q => by have := HBR.out; omega) HW.out.own
      have HOA := Lib.hid (own_grows hA ho2)
      have HSZ := Lib.hid (show w.heap.size ≤ (w2.alloc (.cells #[.string x.name, .bool x.weak, .int .i64 x.params, .int .i64 x.locals, .slice A4 x.body.length c4] 67)).heap.size from Nat.le_trans (Nat.le_trans HW.out.chg.size hc.size) hA.size)
      have HNE := Lib.hid (show ∀ (j : Nat) (u : Value), ([.string x.name, .bool x.weak, .int .i64 x.params, .int .i64 x.locals, .slice A4 x.body.length c4] : List Value)[j]? = some u → (w2.alloc (.cells #[.string x.name, .bool x.weak, .int .i64 x.params, .int .i64 x.locals, .slice A4 x.body.length c4] 67)).cell? ⟨w2.heap.size, j, none⟩ = some u from fun j u q => by rw [cell_at (alloc_at w2 _)]; simpa using q)
      have HONE := Lib.hid (show ∀ u ∈ ([.string x.name, .bool x.weak, .int .i64 x.params, .int .i64 x.locals, .slice A4 x.body.length c4] : List Value), u.oneCell' = true from fun u q => by simp at q; rcases q with rfl | rfl | rfl | rfl | rfl <;> rfl)
      have HLN := Lib.hid (show (xs.length + 1) * 64 ≤ 140737488355328 by omega)
      have HLM := Lib.hid (show xs.length + 1 ≤ maxLen by unfold maxLen; omega)
      have HS := Lib.hid hs; have HC := Lib.hid hc; have HP := Lib.hid hp; have HAA := Lib.hid hA
      clear hs hc hp hA ho2
      go_wp2_with (at_builtin; go_loud (refine wpList_append_rec _ rfl _ _ 28 rfl w.heap.size 67 (.agg #[.string ⟨#[]⟩, .bool false, .int .i64 0, .int .i64 0, .slice none 0 0]) 5 64 Try.inf67 Try.underlying28 rfl (by omega) (.slice A xs.length c) xs.length segs.flatten rfl HOA.out w2.heap.size 1 ([.string x.name, .bool x.weak, .int .i64 x.params, .int .i64 x.locals, .slice A4 x.body.length c4]) rfl rfl HNE.out HONE.out HLN.out HLM.out HSZ.out ?_; intro v1 w3 h1 g1 r1; have HN := Lib.hid (RdRow.next HW.out HBR.out HP.out HS.out HC.out HV.out rfl HAA.out h1 g1 r1); obtain ⟨A1, k1, rfl⟩ := own_slice h1; clear h1 g1 r1))
      go_roundw
      case rel => exact ⟨m, xs ++ [x], _, l2, by go_num, HN.out⟩
      case measure => simp [intOf]; try omega
end Go.Proofs.Ytghnaaahkbnhlaa
