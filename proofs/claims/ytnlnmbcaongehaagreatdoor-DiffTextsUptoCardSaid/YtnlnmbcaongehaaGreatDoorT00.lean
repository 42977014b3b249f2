/- Changes: their cells, what lies behind them, and the changes that lead from one document to another. The contracts of the reference's put and Events: the IDs of two documents, ascending. The contract of the reference's Names: the names of the regions of two documents, ascending. (printed by gen_names.py) The contracts of the reference's Same and SameRows. The reference's Clone of rows and events, Same of events, and event. (printed by gen_refev.py) The reference's SameChange and Same at changes with equal contents. (printed by gen_refchgsame.py) How the readings of the arguments give links and documents in memory. What the rows' list of the library's variables gives, and a world for the witness. The reference's Decimal: a number's digits. The reference's Place: the words of a change's place. The error of a document hangs on its contents alone; what a document without an error holds. -/
import Derived.Deep.RegionLaw
import Derived.Laws.OwnMore
import Derived.Deep.RegionHeld3
import Derived.Deep.DeepCutAuto
import Derived.BigQuiet
import Derived.Deep.QuietTactic
import Derived.Deep.DrawnRows
import Derived.Deep.MidRow
import Derived.Test.YtnlnmbcaongehaaGreatDoorRows
import Derived.Deep.Slices
import Derived.Deep.Fields
import Derived.ChangeSame
import Derived.WalkKit
import Derived.ProofKit
import Derived.OpenShut
import Derived.Deep.DeepHandedRow
import Derived.Deep.DeepWitnessRowRef
import Derived.Lib.LaidTab
import Derived.Lib.LaidU8T
import Derived.Stop.LaidErr
import Derived.Carry
import Derived.Shelf.Vars
import Derived.MakeChecks
import Derived.Lib.ItoaLen
import Derived.Test.YtnlnmbcaongehaaGreatDoorBase06
import Derived.Test.YtnlnmbcaongehaaGreatDoorBase05
import Derived.Test.YtnlnmbcaongehaaGreatDoorBase04
import Derived.Test.YtnlnmbcaongehaaGreatDoorBase02
import Derived.Test.YtnlnmbcaongehaaGreatDoorBase01
import Derived.Test.YtnlnmbcaongehaaGreatDoorBase00
import Derived.Test.YtnlnmbcaongehaaGreatDoorBase03
import Derived.Test.YtnlnmbcaongehaaGreatDoorBase09
import Derived.Test.YtnlnmbcaongehaaGreatDoorBase07
import Derived.Test.YtnlnmbcaongehaaGreatDoorBase08
import Derived.Test.YtnlnmbcaongehaaGreatDoorBase20
import Derived.Test.YtnlnmbcaongehaaGreatDoorBase18
import Derived.Test.YtnlnmbcaongehaaGreatDoorBase17
import Derived.Test.YtnlnmbcaongehaaGreatDoorBase16
import Derived.Test.YtnlnmbcaongehaaGreatDoorBase12
import Derived.Test.YtnlnmbcaongehaaGreatDoorBase10
import Derived.Test.YtnlnmbcaongehaaGreatDoorBase11
import Derived.Test.YtnlnmbcaongehaaGreatDoorBase15
import Derived.Test.YtnlnmbcaongehaaGreatDoorBase14
import Derived.Test.YtnlnmbcaongehaaGreatDoorBase13
import Derived.Test.YtnlnmbcaongehaaGreatDoorBase19
set_option linter.unusedVariables false
set_option linter.unusedSimpArgs false
namespace Go.Proofs.YtnlnmbcaongehaaGreatDoor
open Go.RowKit
theorem run_cmEq (a b : Cm) (w : World) : (binOp .eql 52 (.agg a.enc.toArray) (.agg b.enc.toArray)).run Tryz.prog w = .ok (.bool (cmEq a b)) w := by
  simp [go_sem, Cm.enc, cmEq]
  repeat' split
  all_goals simp_all
end Go.Proofs.YtnlnmbcaongehaaGreatDoor
namespace Go.Proofs.YtnlnmbcaongehaaGreatDoor
open Go.RowKit
theorem IntsV.form {w : World} {v : Value} {zs : List Int} (h : IntsV w v zs) : ∃ a cap, v = .slice a zs.length cap ∧ Ints w a zs := by
  rcases h with ⟨rfl, rfl⟩ | ⟨b, off, cap, rfl, h2, h3, _, h4⟩
  · exact ⟨none, 0, rfl, .inl rfl⟩
  · exact ⟨_, cap, rfl, h4⟩
theorem IntsB.form {B : Nat} {w : World} {v : Value} {zs : List Int} (h : IntsB B w v zs) : ∃ a cap, v = .slice a zs.length cap ∧ Ints w a zs := h.1.form
end Go.Proofs.YtnlnmbcaongehaaGreatDoor
namespace Go.Proofs.YtnlnmbcaongehaaGreatDoor
open Go.RowKit
theorem StrsB.form {B : Nat} {w : World} {v : Value} {zs : List ByteArray} (h : StrsB B w v zs) : ∃ a cap, v = .slice a zs.length cap ∧ Strs w a zs := by
  rcases h.1 with ⟨rfl, rfl⟩ | ⟨b, off, cap, rfl, h2, h3, _, h4⟩
  · exact ⟨none, 0, rfl, .inl rfl⟩
  · exact ⟨_, cap, rfl, h4⟩
end Go.Proofs.YtnlnmbcaongehaaGreatDoor
namespace Go.Proofs.YtnlnmbcaongehaaGreatDoor
open Go.RowKit
theorem refSame_len (a a' : Option Addr) (n m c c' : Nat) (w : World) (h : ¬ n = m) : Calls Tryz.prog 119 #[.agg #[.slice a n c], .agg #[.slice a' m c']] w fun e w' => e = .returned (.bool false) ∧ Below w.heap.size w w' := by
  have h1 : (n != m) = true := by simpa using h
  have h2 : ((n : Int) != (m : Int)) = true := by simp; omega
  have HB := Lib.hid (fun o o' => (((Below.refl _ _).alloc (Nat.le_refl _) _).alloc (by simp) _ : Below w.heap.size w ((w.alloc o).alloc o')))
  go_enter Tryz.func119, Tryz.ntmps119
  go_wp2_with fail
  go_ret
  exact ⟨rfl, HB.out _ _⟩
set_option maxHeartbeats 1600000 in
theorem refSame_eq (a a' : Option Addr) (c c' : Nat) (xs ys : List Run) (w : World) (h : Runs w a xs) (h' : Runs w a' ys) (hl : xs.length ≤ 4000000) (hn : xs.length = ys.length) :
    Calls Tryz.prog 119 #[.agg #[.slice a xs.length c], .agg #[.slice a' ys.length c']] w fun e w' => e = .returned (.bool (Lib.allEq runEq xs ys)) ∧ Below w.heap.size w w' := by
  generalize hG : Lib.allEq runEq xs ys = G
  have H0 := Lib.hid (show Lib.allEq runEq (xs.drop 0) (ys.drop 0) = G from hG)
  have HNN := Lib.hid hn
  rw [← hn]
  clear hG hn
  have h1 : ((xs.length : Int) != (xs.length : Int)) = false := by simp
  generalize hds : #[Value.slice a xs.length c] = ds
  generalize hes : #[Value.slice a' xs.length c'] = es
  have f0 := box2_fst w ds es 78 78 0 (.slice a xs.length c) (by rw [← hds]; rfl)
  have g0 := box2_snd w ds es 78 78 0 (.slice a' xs.length c') (by rw [← hes]; rfl)
  have HB := Lib.hid (fun (w1 : World) (h : Below (w.heap.size + 2) ((w.alloc (.cells ds 78)).alloc (.cells es 78)) w1) => box2_below h)
  have hb0 : Below (w.heap.size + 2) ((w.alloc (.cells ds 78)).alloc (.cells es 78)) ((w.alloc (.cells ds 78)).alloc (.cells es 78)) := Below.refl _ _
  generalize hW0 : (w.alloc (.cells ds 78)).alloc (.cells es 78) = W0 at *
  have HW0 := Lib.hid hW0
  clear hW0
  go_enter Tryz.func119, Tryz.ntmps119
  subst hds
  subst hes
  go_wp2_with fail
  rw [HW0.out]
  go_loopw [16] (fun i wr => ∃ k : Nat, k ≤ xs.length ∧ i = .int .i64 k ∧ Lib.allEq runEq (xs.drop k) (ys.drop k) = G ∧ Below (w.heap.size + 2) W0 wr) (fun i _ => xs.length - (intOf i).toNat)
  case atStart => exact ⟨0, by omega, rfl, H0.out, hb0⟩
  case round =>
    obtain ⟨k, hk, rfl, hp, hb⟩ := hrel
    by_cases hlt : k < xs.length
    · obtain ⟨b, off, r, rfl, hbl, hx, hc, hok⟩ := (h.later (HB.out _ hb)).at_ hlt
      obtain ⟨b', off', s, rfl, hbl', hy, hc', hok'⟩ := (h'.later (HB.out _ hb)).at_ (show k < ys.length by rw [← HNN.out]; exact hlt)
      rw [allEq_at runEq xs ys k r s hx hy] at hp
      have hne := run_runNe r s
      have HP := Lib.hid hp
      have hltd : decide (k < xs.length) = true := by simpa using hlt
      generalize runEq r s = E at *
      obtain ⟨t, cc, i, u, ru⟩ := r
      obtain ⟨t2, cc2, i2, u2, ru2⟩ := s
      simp only [Run.enc] at hne
      have d0 := hc 0 _ rfl; have d1 := hc 1 _ rfl; have d2 := hc 2 _ rfl; have d3 := hc 3 _ rfl; have d4 := hc 4 _ rfl
      have e0 := hc' 0 _ rfl; have e1 := hc' 1 _ rfl; have e2 := hc' 2 _ rfl; have e3 := hc' 3 _ rfl; have e4 := hc' 4 _ rfl
      simp only [Nat.add_zero] at d0 d1 d2 d3 d4 e0 e1 e2 e3 e4
      clear hc hc' hp hx hy hok hok' H0
      have hlt2 : (k : Int) < (xs.length : Int) := by omega
      cases E
      · go_wp2_with fail
        go_quiet (fail)
        go_wp2_with fail
        go_ret
        exact ⟨by rw [← HP.out]; rfl, HB.out _ (Go.below_drewN hb _)⟩
      · go_wp2_with fail
        go_quiet (fail)
        go_wp2_with fail
        go_roundw
        case rel => exact ⟨k + 1, by omega, by go_num, by rw [← HP.out]; simp, Go.below_drewN hb _⟩
        case measure => simp [intOf]; omega
    · obtain rfl : k = xs.length := by omega
      have hp2 : true = G := by
        rw [← hp, List.drop_length, HNN.out, List.drop_length, allEq_nil]
      have HP := Lib.hid hp2
      clear hp hp2 H0
      go_wp2_with fail
      go_ret
      exact ⟨by rw [← HP.out]; rfl, HB.out _ hb⟩
theorem refSame_calls (r s : Row) (w : World) (h : r.lies w) (h' : s.lies w) (hl : r.runs.length ≤ 4000000) :
    Calls Tryz.prog 119 #[.agg r.enc.toArray, .agg s.enc.toArray] w fun e w' => e = .returned (.bool (rowEq r s)) ∧ Below w.heap.size w w' := by
  obtain ⟨a, c, xs⟩ := r
  obtain ⟨a', c', ys⟩ := s
  unfold rowEq
  simp only [Row.enc, Row.lies] at *
  by_cases hn : xs.length = ys.length
  · exact refSame_eq a a' c c' xs ys w h h' hl hn
  · rw [Lib.allEq_len runEq xs ys hn]
    exact refSame_len a a' _ _ c c' w hn
theorem refRows_len (a a' : Option Addr) (n m c c' : Nat) (w : World) (h : ¬ n = m) : Calls Tryz.prog 64 #[.slice a n c, .slice a' m c'] w fun e w' => e = .returned (.bool false) ∧ Below w.heap.size w w' := by
  have h1 : (n != m) = true := by simpa using h
  have h2 : ((n : Int) != (m : Int)) = true := by simp; omega
  go_enter Tryz.func64, Tryz.ntmps64
  go_wp2_with fail
  go_ret
  exact ⟨rfl, Below.refl _ _⟩
set_option maxHeartbeats 1600000 in
theorem refRows_eq (a a' : Option Addr) (c c' : Nat) (xs ys : List Row) (w : World) (h : RowsAt' w a xs) (h' : RowsAt' w a' ys) (hf : ∀ r ∈ xs, r.runs.length ≤ 4000000) (hl : xs.length ≤ 4000000) (hn : xs.length = ys.length) :
    Calls Tryz.prog 64 #[.slice a xs.length c, .slice a' ys.length c'] w fun e w' => e = .returned (.bool (Lib.allEq rowEq xs ys)) ∧ Below w.heap.size w w' := by
  have HT := Lib.hid (fun (w2 w3 : World) (h : Below w.heap.size w w2) (h3 : Below w2.heap.size w2 w3) => (h.trans (h3.mono h.size) : Below w.heap.size w w3))
  generalize hG : Lib.allEq rowEq xs ys = G
  have H0 := Lib.hid (show Lib.allEq rowEq (xs.drop 0) (ys.drop 0) = G from hG)
  have HNN := Lib.hid hn
  rw [← hn]
  clear hG hn
  have h1 : ((xs.length : Int) != (xs.length : Int)) = false := by simp
  go_enter Tryz.func64, Tryz.ntmps64
  go_wp2_with fail
  go_loopw [13] (fun i wr => ∃ k : Nat, k ≤ xs.length ∧ i = .int .i64 k ∧ Lib.allEq rowEq (xs.drop k) (ys.drop k) = G ∧ Below w.heap.size w wr) (fun i _ => xs.length - (intOf i).toNat)
  case atStart => exact ⟨0, by omega, rfl, H0.out, Below.refl _ _⟩
  case round =>
    obtain ⟨k, hk, rfl, hp, hb⟩ := hrel
    by_cases hlt : k < xs.length
    · obtain ⟨b, off, r, rfl, hbl, hx, hc, hok⟩ := SliceOf.at_ h hlt
      obtain ⟨b', off', s, rfl, hbl', hy, hc', hok'⟩ := SliceOf.at_ h' (show k < ys.length by rw [← HNN.out]; exact hlt)
      have HC := Lib.hid (fun (w1 : World) (q : Below w.heap.size w w1) => (refSame_calls r s w1 (Row.keeps _ _ _ q hok) (Row.keeps _ _ _ q hok') (hf r (List.mem_of_getElem? hx))).mono (fun e w' (p : e = .returned (.bool (rowEq r s)) ∧ Below w1.heap.size w1 w') => (show e = .returned (.bool (rowEq r s)) ∧ Below w.heap.size w w' from ⟨p.1, HT.out _ _ q p.2⟩)))
      rw [allEq_at rowEq xs ys k r s hx hy] at hp
      have HP := Lib.hid hp
      have hltd : decide (k < xs.length) = true := by simpa using hlt
      have q0 := fun (w1 : World) (q : Below w.heap.size w w1) => (q.cell (p := ⟨b, off + k * 1 + 0, none⟩) hbl).trans (hc 0 _ rfl)
      have q1 := fun (w1 : World) (q : Below w.heap.size w w1) => (q.cell (p := ⟨b', off' + k * 1 + 0, none⟩) hbl').trans (hc' 0 _ rfl)
      simp only [Nat.add_zero, Nat.mul_one] at q0 q1
      obtain ⟨ra, rc, rr⟩ := r
      obtain ⟨sa, sc, ss⟩ := s
      generalize rowEq ⟨ra, rc, rr⟩ ⟨sa, sc, ss⟩ = E at *
      simp only [Row.enc] at HC q0 q1
      clear hc hc' hp hx hy hok hok' H0
      have hlt2 : (k : Int) < (xs.length : Int) := by omega
      have hb0d : Below w.heap.size w wr.drew := hb.drew
      cases E
      · go_wp2_with fail
        go_region_held3 (fun w' => Below w.heap.size w w') (first | assumption | exact hb0d) (first | (go_at_call 119; ((with_reducible refine (HC.out _ ?_).mono ?_); assumption); rintro e w4 ⟨rfl, hc4⟩))
        all_goals
          go_wp2_with fail
          go_ret
          exact ⟨by rw [← HP.out]; rfl, by assumption⟩
      · go_wp2_with fail
        go_region_held3 (fun w' => Below w.heap.size w w') (first | assumption | exact hb0d) (first | (go_at_call 119; ((with_reducible refine (HC.out _ ?_).mono ?_); assumption); rintro e w4 ⟨rfl, hc4⟩))
        all_goals
          go_wp2_with fail
          go_roundw
          case rel => exact ⟨k + 1, by omega, by go_num, by rw [← HP.out]; simp, by assumption⟩
          case measure => simp [intOf]; omega
    · obtain rfl : k = xs.length := by omega
      have hp2 : true = G := by
        rw [← hp, List.drop_length, HNN.out, List.drop_length, allEq_nil]
      have HP := Lib.hid hp2
      clear hp hp2 H0
      go_wp2_with fail
      go_ret
      exact ⟨by rw [← HP.out]; rfl, hb⟩
theorem refRows_calls (a a' : Option Addr) (c c' : Nat) (xs ys : List Row) (w : World) (h : RowsAt' w a xs) (h' : RowsAt' w a' ys) (hf : ∀ r ∈ xs, r.runs.length ≤ 4000000) (hl : xs.length ≤ 4000000) :
    Calls Tryz.prog 64 #[.slice a xs.length c, .slice a' ys.length c'] w fun e w' => e = .returned (.bool (rowsEq xs ys)) ∧ Below w.heap.size w w' := by
  unfold rowsEq
  by_cases hn : xs.length = ys.length
  · exact refRows_eq a a' c c' xs ys w h h' hf hl hn
  · rw [Lib.allEq_len rowEq xs ys hn]
    exact refRows_len a a' _ _ c c' w hn
end Go.Proofs.YtnlnmbcaongehaaGreatDoor
namespace Go.Proofs.YtnlnmbcaongehaaGreatDoor
open Go.RowKit
set_option maxRecDepth 100000 in
set_option maxHeartbeats 3200000 in
theorem refEvSame_calls (x y : Ev) (w : World) (h : x.lies w) (h' : y.lies w) (hf : ∀ r ∈ x.rows, r.runs.length ≤ 4000000) (hl : x.rows.length ≤ 4000000) :
    Calls Tryz.prog 50 #[.agg x.enc.toArray, .agg y.enc.toArray] w fun e w' => e = .returned (.bool (evEq x y)) ∧ Below w.heap.size w w' := by
  have hb2 : ∀ o o', Below w.heap.size w ((w.alloc o).alloc o') := fun o o' => ((Below.refl _ _).alloc (Nat.le_refl _) _).alloc (by simp) _
  have HC := Lib.hid (fun o o' => refRows_calls x.at_ y.at_ x.cap y.cap x.rows y.rows ((w.alloc o).alloc o') (RowsAt.later h (hb2 o o')) (RowsAt.later h' (hb2 o o')) hf hl)
  have HB := Lib.hid (fun o o' w1 (h1 : Below ((w.alloc o).alloc o').heap.size ((w.alloc o).alloc o') w1) => (hb2 o o').trans (h1.mono (by simp; omega)))
  have HB0 := Lib.hid hb2
  have hE : evEq x y = (x.id == y.id && (x.inn == y.inn && x.out == y.out) && x.region.toList == y.region.toList && x.kind == y.kind && x.speaker.toList == y.speaker.toList && rowsEq x.rows y.rows) := rfl
  generalize hQ : (fun (e : Ending) (w' : World) => e = .returned (.bool (evEq x y)) ∧ Below w.heap.size w w') = Q
  generalize rowsEq x.rows y.rows = G at HC hE
  obtain ⟨id, inn, out, reg, kind, sp, xa, xc, xr⟩ := x
  obtain ⟨id', inn', out', reg', kind', sp', ya, yc, yr⟩ := y
  simp only [Ev.enc] at *
  have hsp := run_spanEq inn out inn' out'
  rcases Bool.eq_false_or_eq_true (id == id') with h1 | h1
  rotate_left
  · rw [h1] at hE
    have HQ := Lib.hid (fun w' (hb : Below w.heap.size w w') => show Q (.returned (.bool false)) w' from hQ ▸ ⟨by rw [hE]; rfl, hb⟩)
    clear hQ hE hb2 h h' hf hsp
    go_enter Tryz.func50, Tryz.ntmps50
    go_wp2_with fail
    exact HQ.out _ (HB0.out _ _)
  rcases Bool.eq_false_or_eq_true (inn == inn' && out == out') with h2 | h2
  rotate_left
  · rw [h1, h2] at hE
    rw [h2] at hsp
    have HQ := Lib.hid (fun w' (hb : Below w.heap.size w w') => show Q (.returned (.bool false)) w' from hQ ▸ ⟨by rw [hE]; rfl, hb⟩)
    clear hQ hE hb2 h h' hf h2
    go_enter Tryz.func50, Tryz.ntmps50
    go_wp2_with fail
    exact HQ.out _ (HB0.out _ _)
  rcases Bool.eq_false_or_eq_true (reg.toList == reg'.toList) with h3 | h3
  rotate_left
  · rw [h1, h2, h3] at hE
    rw [h2] at hsp
    have HQ := Lib.hid (fun w' (hb : Below w.heap.size w w') => show Q (.returned (.bool false)) w' from hQ ▸ ⟨by rw [hE]; rfl, hb⟩)
    clear hQ hE hb2 h h' hf h2
    go_enter Tryz.func50, Tryz.ntmps50
    go_wp2_with fail
    exact HQ.out _ (HB0.out _ _)
  rcases Bool.eq_false_or_eq_true (kind == kind') with h4 | h4
  rotate_left
  · rw [h1, h2, h3, h4] at hE
    rw [h2] at hsp
    have HQ := Lib.hid (fun w' (hb : Below w.heap.size w w') => show Q (.returned (.bool false)) w' from hQ ▸ ⟨by rw [hE]; rfl, hb⟩)
    clear hQ hE hb2 h h' hf h2
    go_enter Tryz.func50, Tryz.ntmps50
    go_wp2_with fail
    exact HQ.out _ (HB0.out _ _)
  rcases Bool.eq_false_or_eq_true (sp.toList == sp'.toList) with h5 | h5
  rotate_left
  · rw [h1, h2, h3, h4, h5] at hE
    rw [h2] at hsp
    have HQ := Lib.hid (fun w' (hb : Below w.heap.size w w') => show Q (.returned (.bool false)) w' from hQ ▸ ⟨by rw [hE]; rfl, hb⟩)
    clear hQ hE hb2 h h' hf h2
    go_enter Tryz.func50, Tryz.ntmps50
    go_wp2_with fail
    exact HQ.out _ (HB0.out _ _)
  rw [h1, h2, h3, h4, h5] at hE
  rw [h2] at hsp
  have HQ := Lib.hid (fun w' (hb : Below w.heap.size w w') => show Q (.returned (.bool G)) w' from hQ ▸ ⟨by rw [hE]; rfl, hb⟩)
  clear hQ hE hb2 h h' hf h2
  go_enter Tryz.func50, Tryz.ntmps50
  go_wp2_with fail
  refine (HC.out _ _).mono ?_
  rintro e w1 ⟨rfl, hb⟩
  have HBW := Lib.hid (HB.out _ _ _ hb)
  clear hb
  go_wp2_with fail
  exact HQ.out _ HBW.out
theorem CopyRel.form {rows : List Row} {w wr : World} {v : Value} {k : Nat} (h : CopyRel rows w v k wr) : ∃ a n c, v = .slice a n c := by
  obtain ⟨zs, h1, h2, h3⟩ := h
  obtain ⟨a, c, rfl, hS⟩ := GrowL.slice (k := 1) (enc := Row.enc) (fun _ => rfl) h3
  exact ⟨_, _, _, rfl⟩
set_option maxRecDepth 100000 in
set_option maxHeartbeats 3200000 in
theorem refStyleClone_calls (a : Option Addr) (cap : Nat) (rows : List Row) (w : World) (h : RowsAt w a rows) (hf : ∀ r ∈ rows, r.runs.length ≤ 4000000) (hl : rows.length ≤ 4000000) :
    Calls Tryz.prog 120 #[.slice a rows.length cap] w (RowsCopy rows w) := by
  have HR := Lib.hid (fun (w' : World) (hb : Below w.heap.size w w') => RowsAt.later h hb)
  have HD := Lib.hid (fun (wr : World) (v : Value) (h : CopyRel rows w v rows.length wr) => h.done)
  have HF := Lib.hid hf
  have H0 := Lib.hid (show CopyRel rows w (.slice none 0 0) 0 w from ⟨[], rfl, rfl, GrowL.start (Below.refl _ _)⟩)
  obtain ⟨j0, hj, hy0, hy1, hy2⟩ := info_parts Tryz.info75
  have JI := Lib.hid hj; have J0 := Lib.hid hy0; have J1 := Lib.hid hy1; have J2 := Lib.hid hy2
  obtain ⟨j0', hj', hy0', hy1', hy2'⟩ := info_parts Tryz.info78
  have KI := Lib.hid hj'; have K0 := Lib.hid hy0'; have K1 := Lib.hid hy1'; have K2 := Lib.hid hy2'
  clear h hf hj hy0 hy1 hy2 hj' hy0' hy1' hy2'
  generalize RowsCopy rows w = Q at *
  go_enter Tryz.func120, Tryz.ntmps120
  go_wp2_with fail
  go_loopw [3, 8] (fun v i wr => ∃ k : Nat, k ≤ rows.length ∧ i = .int .i64 k ∧ CopyRel rows w v k wr) (fun _ i _ => rows.length - (intOf i).toNat)
  case atStart => exact ⟨0, by omega, rfl, H0.out⟩
  case round =>
    clear H0
    obtain ⟨k, hk, rfl, hrel⟩ := hrel
    obtain ⟨av, an, ac, rfl⟩ := hrel.form
    by_cases hlt : k < rows.length
    · have hbw : Below w.heap.size w wr := by obtain ⟨_, _, _, h⟩ := hrel; exact h.2.2
      obtain ⟨b, off, r, rfl, hbl, hxk, hc, hok⟩ := (HR.out _ hbw).at_ hlt
      have d0 := hc 0 _ rfl
      simp only [Nat.add_zero, Nat.mul_one] at d0
      have HFR := Lib.hid (HF.out r (List.mem_of_getElem? hxk))
      have HOK := Lib.hid (fun (o o' : Obj) => Row.keeps _ _ _ (((Below.refl wr.heap.size wr).alloc (Nat.le_refl _) o).alloc (by simp) o') hok)
      have HP := Lib.hid (fun (w1 : World) (a2 : Option Addr) (c2 : Nat) (hb : Below wr.heap.size wr w1) (hS : w1.ownsRow (wr.heap.size + 1) 75 5 (.slice a2 r.runs.length c2) r.runs.length (r.runs.flatMap Run.enc)) => CopyRel.push hrel hxk hb hS)
      have hln := HFR.out
      obtain ⟨ra, rc, rr⟩ := r
      simp only at HFR HOK HP hln
      have hws := hbw.size
      clear hc hok hrel hbw hxk
      go_wp2_with (at_builtin; refine wpList_append_slice (enc := Run.enc) (Ok := Flat) _ rfl (.tmp 13) (.tmp 15) 76 rfl (wr.heap.size + 1) 75 j0 _ 5 40 Tryz.underlying76 JI.out J0.out J1.out J2.out rfl (by decide) (fun _ => rfl) Run.one _ 0 [] rfl ?hrow ra rc rr rfl ?hsl ?h63 ?hb ?hbase ?_)
      case hrow =>
        have := World.ownsRow_made (base := wr.heap.size + 1) (e := 75) (size := 5) (wr.alloc (.cells #[.slice ra rr.length rc] 78)) #[] 0 (by simp) (Nat.zero_le _) (by simp)
        rw [World.size_alloc] at this
        exact this
      case hsl => exact HOK.out _ _
      case h63 => unfold maxLen; omega
      case hb => omega
      try (case hbase => simp)
      intro v1 w1 ho hg _
      have hb1 : Below wr.heap.size wr w1 := (((Below.refl _ _).alloc (Nat.le_refl _) _).alloc (by simp) _).grown hg (by simp; omega) (fun j hj => by simp [Value.ownBlock] at hj; omega)
      obtain ⟨a2, c2, rfl⟩ : ∃ a2 c2, v1 = .slice a2 rr.length c2 := by
        rcases ho.2 with ⟨rfl, h0⟩ | ⟨g, cap, _, rfl, _⟩
        · exact ⟨none, 0, by rw [h0]⟩
        · exact ⟨_, _, rfl⟩
      obtain ⟨zs, hzl, hO, hfin⟩ := HP.out w1 a2 c2 hb1 ho
      have HFIN := Lib.hid hfin
      have hs1 : w.heap.size ≤ w1.heap.size := Nat.le_trans hws hb1.size
      clear ho hg hfin hb1 HP HOK d0 hzl
      generalize zs.flatMap Row.enc = zf at *
      go_wp2_with (at_builtin; refine wpList_append_at _ _ rfl (.tmp 12) (.tmp 18) 48 rfl w.heap.size 78 j0' _ 1 24 Tryz.underlying48 KI.out K0.out K1.out K2.out rfl (by decide) _ _ _ rfl hO _ rfl rfl ?hsz2 ?h12 ?h632 ?hb2 ?hbase2 ?_)
      case hsz2 => rfl
      case h12 => first | (intro u hu; simp at hu; subst hu; rfl) | rfl
      case h632 => unfold maxLen; omega
      case hb2 => omega
      try (case hbase2 => omega)
      intro v2 w2 hown hgrow hat2
      have R := Lib.hid (HFIN.out v2 w2 hown hgrow hat2)
      clear hown hgrow hat2 HFIN hO
      go_wp2_with fail
      go_roundw
      case rel => exact ⟨k + 1, by omega, by go_num, R.out⟩
      case measure => simp [intOf]; omega
    · obtain rfl : k = rows.length := by omega
      have HN := Lib.hid hrel
      clear hrel
      go_wp2_with fail
      exact HD.out _ _ HN.out
set_option maxRecDepth 100000 in
set_option maxHeartbeats 3200000 in
theorem refEvClone_calls (x : Ev) (w : World) (h : x.lies w) (hf : ∀ r ∈ x.rows, r.runs.length ≤ 4000000) (hl : x.rows.length ≤ 4000000) :
    Calls Tryz.prog 65 #[.agg x.enc.toArray] w (EvCopy x.c w) := by
  generalize hcs : x.enc.toArray = cs
  have HC := Lib.hid (fun (o : Obj) => refStyleClone_calls x.at_ x.cap x.rows ((w.alloc (.cells cs 50)).alloc o) (RowsAt.later h (((Below.refl _ _).alloc (Nat.le_refl _) _).alloc (by simp) _)) hf hl)
  have HQ := Lib.hid (fun (a : Option Addr) (c : Nat) (rows : List Row) (w' : World) (e : rows.map Row.runs = x.rows.map Row.runs) (h : RowsAt w' a rows) (hu : ∀ b, rowsUse a rows b → w.heap.size ≤ b) (hb : Below w.heap.size w w') => (show EvCopy x.c w (.returned (.agg #[.int .i64 x.id, .int .i64 x.inn, .int .i64 x.out, .string x.region, .int .u8 x.kind, .string x.speaker, .slice a rows.length c])) w' from
    ⟨⟨x.id, x.inn, x.out, x.region, x.kind, x.speaker, a, c, rows⟩, rfl, by simp only [Ev.c, e], h, hu, hb⟩))
  have HB := Lib.hid (fun (o o' : Obj) (w1 : World) (hb : Below ((w.alloc o).alloc o').heap.size ((w.alloc o).alloc o') w1) => (show Below w.heap.size w w1 from (((Below.refl _ _).alloc (Nat.le_refl _) _).alloc (by simp) _).trans (hb.mono (by simp; omega))))
  have HK := Lib.hid (fun (o : Array Value) (w1 : World) (hb : Below ((w.alloc (.cells cs 50)).alloc (.cells o 50)).heap.size ((w.alloc (.cells cs 50)).alloc (.cells o 50)) w1) => (show (w1.heap[w.heap.size]? = some (.cells cs 50 (0, 0)) ∧ w1.heap[w.heap.size + 1]? = some (.cells o 50 (0, 0))) by
    refine ⟨?_, ?_⟩
    · rw [hb.block _ (by simp; omega), Below.heap_alloc _ _ _ (by simp)]
      exact heap_alloc_last w _
    · rw [hb.block _ (by simp)]
      have := heap_alloc_last (w.alloc (.cells cs 50)) (.cells o 50)
      rwa [World.size_alloc] at this))
  obtain ⟨id, inn, out, reg, kind, sp, a, c, rows⟩ := x
  simp only at *
  generalize EvCopy _ w = Q at *
  clear h hf
  simp only [Ev.enc] at hcs
  go_enter Tryz.func65, Tryz.ntmps65
  subst hcs
  go_wp2_with fail
  refine (HC.out _).mono ?_
  rintro e w1 ⟨a', c', rows', rfl, hr, hm, hu, hb⟩
  obtain ⟨hk1, hk2⟩ := HK.out _ _ hb
  have HBW := Lib.hid (HB.out _ _ _ hb)
  have HR := Lib.hid hr
  have HM := Lib.hid hm
  have HU := Lib.hid hu
  clear hb hr hm hu HC HB HK
  have c1 : ∀ j, w1.cell? ⟨w.heap.size, j, none⟩ = _ := fun j => cell_of_row _ _ j _ 50 (0, 0) hk1
  have c2 : ∀ j, w1.cell? ⟨w.heap.size + 1, j, none⟩ = _ := fun j => cell_of_row _ _ j _ 50 (0, 0) hk2
  have z1 : ∀ j, w1.frozen? ⟨w.heap.size, j, none⟩ = false := fun j => by simp [World.frozen?, hk1]
  have z2 : ∀ j, w1.frozen? ⟨w.heap.size + 1, j, none⟩ = false := fun j => by simp [World.frozen?, hk2]
  clear hk1 hk2
  go_wp2_with fail
  refine bodyPost_ret (v := .agg #[.int .i64 id, .int .i64 inn, .int .i64 out, .string reg, .int .u8 kind, .string sp, .slice a' rows'.length c']) (by simp [results, Tryz.results65, go_sem, c2]) rfl ?_
  have HF := Lib.hid (fun (b : Nat) (u u0 u1 u2 u3 u4 u5 u6 : Value) (hb : w.heap.size + 2 ≤ b) => (show ((((((((w1.setCell ⟨w.heap.size, 6, none⟩ u).setCell ⟨w.heap.size + 1, 0, none⟩ u0).setCell ⟨w.heap.size + 1, 1, none⟩ u1).setCell ⟨w.heap.size + 1, 2, none⟩ u2).setCell ⟨w.heap.size + 1, 3, none⟩ u3).setCell ⟨w.heap.size + 1, 4, none⟩ u4).setCell ⟨w.heap.size + 1, 5, none⟩ u5).setCell ⟨w.heap.size + 1, 6, none⟩ u6).heap[b]? = w1.heap[b]? by
    repeat rw [Below.heap_setCell _ _ _ _ (by simp only; omega)]))
  have HUU : ∀ b, rowsUse a' rows' b → w.heap.size + 2 ≤ b := fun b hu => by
    have := HU.out b hu
    simp at this
    omega
  refine HQ.out _ _ _ _ HM.out (RowsAt.frame HR.out (by simp) fun b hu => HF.out b _ _ _ _ _ _ _ _ (HUU b hu)) (fun b hu => by have := HUU b hu; omega) ?_
  repeat refine Below.setCell ?_ (by simp only; omega) _
  exact HBW.out
end Go.Proofs.YtnlnmbcaongehaaGreatDoor
namespace Go.Proofs.YtnlnmbcaongehaaGreatDoor
open Go.RowKit
attribute [local go_sem ↓] Go.wp_at_zero Go.wp_at_succ
theorem chgSize : (Tryz.prog.info? 54).map (·.size) = some 59 := by kernel_rfl
end Go.Proofs.YtnlnmbcaongehaaGreatDoor
namespace Go.Proofs.YtnlnmbcaongehaaGreatDoor
open Go.RowKit Go.ChangeShapes Go.WideShapes Go.Deep
theorem bulk_one {H : Type} (d : DataW H) : 1 ≤ Rows.uptoBulk d := by
  cases d with
  | lit l => cases l <;> simp [Rows.uptoBulk]
  | nil => simp [Rows.uptoBulk]
  | ptr d => simp [Rows.uptoBulk]
  | slice elems spare => simp [Rows.uptoBulk]
  | agg parts => simp [Rows.uptoBulk]
  | iface t d => simp [Rows.uptoBulk]
  | map entries => simp [Rows.uptoBulk]
  | held h => simp [Rows.uptoBulk]
theorem bulk_part {H : Type} {d : DataW H} {l : List (DataW H)} (h : d ∈ l) : Rows.uptoBulk d ≤ Rows.uptoBulkAll l := by
  induction l with
  | nil => cases h
  | cons x r ih =>
    simp only [Rows.uptoBulkAll]
    cases List.mem_cons.1 h with
    | inl e => subst e; omega
    | inr e => have := ih e; omega
theorem bulk_sum {H : Type} (l : List (DataW H)) : Rows.uptoBulkAll l = (l.map Rows.uptoBulk).sum := by
  induction l with
  | nil => simp [Rows.uptoBulkAll]
  | cons x r ih => simp [Rows.uptoBulkAll, ih]
theorem build {α : Type} {Q : Nat → α → Prop} : ∀ n, (∀ i, i < n → ∃ a, Q i a) → ∃ xs : List α, xs.length = n ∧ ∀ i x, xs[i]? = some x → Q i x
  | 0, _ => ⟨[], rfl, by simp⟩
  | n + 1, h => by
    obtain ⟨xs, hl, hx⟩ := build n (fun i hi => h i (by omega))
    obtain ⟨a, ha⟩ := h n (by omega)
    refine ⟨xs ++ [a], by simp [hl], fun i x hi => ?_⟩
    by_cases hn : i < n
    · rw [List.getElem?_append_left (by omega)] at hi
      exact hx i x hi
    · have hil : i < (xs ++ [a]).length := (List.getElem?_eq_some_iff.1 hi).1
      obtain rfl : i = n := by simp at hil; omega
      rw [List.getElem?_append_right (by omega), hl, Nat.sub_self] at hi
      obtain rfl : a = x := by simpa using hi
      exact ha
theorem sum_le {α : Type} (μ : α → Nat) : ∀ (xs : List α) (g : Nat → Nat), (∀ i x, xs[i]? = some x → μ x ≤ g i) → (xs.map μ).sum ≤ ((List.range xs.length).map g).sum
  | [], g, _ => by simp
  | x :: l, g, h => by
    have ih := sum_le μ l (fun i => g (i + 1)) (fun i y hy => h (i + 1) y (by simpa using hy))
    have h0 := h 0 x rfl
    rw [List.length_cons, List.range_succ_eq_map, List.map_cons, List.map_cons, List.sum_cons, List.sum_cons, List.map_map]
    exact Nat.add_le_add h0 ih
theorem len_le (g : Nat → Nat) (h : ∀ i, 1 ≤ g i) : ∀ n, n ≤ ((List.range n).map g).sum
  | 0 => by simp
  | n + 1 => by
    have := len_le g h n
    have := h n
    rw [List.range_succ, List.map_append, List.sum_append]
    simp
    omega
section
variable {H : Type} (enc : TypeId × Value → H) (w : World) (base : Nat) (sp : Nat → Bool) (held : Bool)
/-- What reads at a type is an α, with a measure that the reading's bulk bounds. -/
def Reads {α : Type} (t : TypeId) (ea : α → List Value) (Ok : World → α → Prop) (fits : α → Prop) (μ : α → Nat) : Prop :=
  ∀ fuel cs (x : DataW H × List MemPlace), DataW.trod enc Tryz.prog w base sp held fuel t cs = some x → Rows.uptoBulk x.1 ≤ 1048576 → ∃ a : α, cs = ea a ∧ Ok w a ∧ fits a ∧ μ a ≤ Rows.uptoBulk x.1
end
theorem reads_slice {H : Type} {enc : TypeId × Value → H} {w : World} {base : Nat} {sp : Nat → Bool} {held : Bool} {α : Type} {t e k : Nat} {ea : α → List Value} {Ok : World → α → Prop} {fits : α → Prop} {μ : α → Nat}
    (ht : Tryz.prog.underlying t = some (.slice e)) (hk : Tryz.prog.cellsOf e = k) (hk0 : 0 < k) (hlen : ∀ a, (ea a).length = k) (hr : Reads enc w base sp held e ea Ok fits μ)
    (fuel : Nat) (cs : List Value) (x : DataW H × List MemPlace) (h : DataW.trod enc Tryz.prog w base sp held fuel t cs = some x) (hb : Rows.uptoBulk x.1 ≤ 1048576) :
    ∃ (a : Option Addr) (xs : List α) (cap : Nat), cs = [.slice a xs.length cap] ∧ SliceOf k ea Ok w a xs ∧ (∀ y ∈ xs, fits y) ∧ xs.length ≤ Rows.uptoBulk x.1 ∧ (xs.map μ).sum ≤ Rows.uptoBulk x.1 := by
  rcases open_slice ht h with ⟨rfl, rfl⟩ | ⟨a, len, cap, m, n, D, Pl, rfl, hbl, hl, hm, hmm, rfl, hi⟩
  · exact ⟨none, [], 0, rfl, .inl rfl, by simp, by simp, by simp⟩
  · have hml : len ≤ m := by rw [hmm]; split <;> omega
    simp only [Rows.uptoBulk] at hb ⊢
    have hD : ∀ i, i < len → Rows.uptoBulk (D i) ≤ Rows.uptoBulkAll ((List.range len).map D) := fun i hi => bulk_part (List.mem_map.2 ⟨i, List.mem_range.2 hi, rfl⟩)
    obtain ⟨xs, hxl, hx⟩ := build (Q := fun i y => (∀ j v, (ea y)[j]? = some v → w.cell? ((a.add (i * k)).add j) = some v) ∧ Ok w y ∧ fits y ∧ μ y ≤ Rows.uptoBulk (D i)) len (fun i hil => by
      obtain ⟨cs', hc, htr⟩ := hi i (by omega)
      obtain ⟨y, hy1, hy2, hy3, hy4⟩ := hr n cs' (D i, Pl i) htr (by have := hD i hil; simp only; omega)
      rw [hk] at hc
      obtain ⟨_, hcl, hat⟩ := World.cells?_some hc
      refine ⟨y, fun j v hv => ?_, hy2, hy3, hy4⟩
      have hj : j < k := by have := (List.getElem?_eq_some_iff.1 hv).1; rw [hlen] at this; exact this
      rw [hat j hj, hy1]
      exact hv)
    refine ⟨some a, xs, cap, by rw [hxl], ?_, fun y hy => ?_, ?_, ?_⟩
    · cases xs with
      | nil => exact .inl rfl
      | cons y0 ys =>
        have h0 := (hx 0 y0 rfl).1
        have hy0 : ∃ v, (ea y0)[0]? = some v := ⟨_, List.getElem?_eq_getElem (by rw [hlen]; exact hk0)⟩
        obtain ⟨v0, hv0⟩ := hy0
        have hc0 := h0 0 v0 hv0
        simp only [Nat.zero_mul] at hc0
        obtain ⟨b, off, spot⟩ := a
        have hspot : spot = none := by simpa [Addr.add] using World.cell?_spot hc0
        subst hspot
        refine .inr ⟨b, off, rfl, by simpa [Addr.add] using World.block_lt_of_cell? w _ hc0, fun i y hy => ⟨fun j v hv => ?_, (hx i y hy).2.1⟩⟩
        have := (hx i y hy).1 j v hv
        have e : ((⟨b, off, none⟩ : Addr).add (i * k)).add j = ⟨b, off + i * k + j, none⟩ := by
          unfold Addr.add
          split <;> split <;> simp_all
        rw [e] at this
        exact this
    · obtain ⟨i, hi'⟩ := List.getElem?_of_mem hy
      exact (hx i y hi').2.2.1
    · have h1 : xs.length ≤ Rows.uptoBulkAll ((List.range len).map D) := by
        rw [bulk_sum, List.map_map, hxl]
        exact len_le _ (fun i => bulk_one _) len
      omega
    · have h1 := sum_le μ xs (fun i => Rows.uptoBulk (D i)) (fun i y hy => (hx i y hy).2.2.2)
      have h2 : ((List.range xs.length).map fun i => Rows.uptoBulk (D i)).sum = Rows.uptoBulkAll ((List.range len).map D) := by
        rw [bulk_sum, List.map_map, hxl]; rfl
      omega
theorem min64 : IntKind.i64.min = -9223372036854775808 := by decide
theorem max64 : IntKind.i64.max = 9223372036854775807 := by decide
theorem min8 : IntKind.u8.min = 0 := by decide
theorem max8 : IntKind.u8.max = 255 := by decide
theorem i64_of {n : Int} (h : (Lit.int .i64 n).wf = true) : i64 n := by
  simp only [Lit.wf, Bool.and_eq_true, decide_eq_true_eq, min64, max64] at h
  exact h
theorem u8_of {n : Int} (h : (Lit.int .u8 n).wf = true) : 0 ≤ n ∧ n ≤ 255 := by
  simp only [Lit.wf, Bool.and_eq_true, decide_eq_true_eq, min8, max8] at h
  exact h
theorem list1 {α : Type} {l : List α} (h : l.length = 1) : ∃ a0, l = [a0] := by
  obtain _ | ⟨a0, l⟩ := l
  · simp at h
  obtain _ | ⟨b, l⟩ := l
  · exact ⟨a0, rfl⟩
  · simp at h
theorem list2 {α : Type} {l : List α} (h : l.length = 2) : ∃ a0 a1, l = [a0, a1] := by
  obtain _ | ⟨a0, l⟩ := l
  · simp at h
  obtain _ | ⟨a1, l⟩ := l
  · simp at h
  obtain _ | ⟨b, l⟩ := l
  · exact ⟨a0, a1, rfl⟩
  · simp at h
theorem list3 {α : Type} {l : List α} (h : l.length = 3) : ∃ a0 a1 a2, l = [a0, a1, a2] := by
  obtain _ | ⟨a0, l⟩ := l
  · simp at h
  obtain _ | ⟨a1, l⟩ := l
  · simp at h
  obtain _ | ⟨a2, l⟩ := l
  · simp at h
  obtain _ | ⟨b, l⟩ := l
  · exact ⟨a0, a1, a2, rfl⟩
  · simp at h
theorem list5 {α : Type} {l : List α} (h : l.length = 5) : ∃ a0 a1 a2 a3 a4, l = [a0, a1, a2, a3, a4] := by
  obtain _ | ⟨a0, l⟩ := l
  · simp at h
  obtain _ | ⟨a1, l⟩ := l
  · simp at h
  obtain _ | ⟨a2, l⟩ := l
  · simp at h
  obtain _ | ⟨a3, l⟩ := l
  · simp at h
  obtain _ | ⟨a4, l⟩ := l
  · simp at h
  obtain _ | ⟨b, l⟩ := l
  · exact ⟨a0, a1, a2, a3, a4, rfl⟩
  · simp at h
theorem list6 {α : Type} {l : List α} (h : l.length = 6) : ∃ a0 a1 a2 a3 a4 a5, l = [a0, a1, a2, a3, a4, a5] := by
  obtain _ | ⟨a0, l⟩ := l
  · simp at h
  obtain _ | ⟨a1, l⟩ := l
  · simp at h
  obtain _ | ⟨a2, l⟩ := l
  · simp at h
  obtain _ | ⟨a3, l⟩ := l
  · simp at h
  obtain _ | ⟨a4, l⟩ := l
  · simp at h
  obtain _ | ⟨a5, l⟩ := l
  · simp at h
  obtain _ | ⟨b, l⟩ := l
  · exact ⟨a0, a1, a2, a3, a4, a5, rfl⟩
  · simp at h
theorem list7 {α : Type} {l : List α} (h : l.length = 7) : ∃ a0 a1 a2 a3 a4 a5 a6, l = [a0, a1, a2, a3, a4, a5, a6] := by
  obtain _ | ⟨a0, l⟩ := l
  · simp at h
  obtain _ | ⟨a1, l⟩ := l
  · simp at h
  obtain _ | ⟨a2, l⟩ := l
  · simp at h
  obtain _ | ⟨a3, l⟩ := l
  · simp at h
  obtain _ | ⟨a4, l⟩ := l
  · simp at h
  obtain _ | ⟨a5, l⟩ := l
  · simp at h
  obtain _ | ⟨a6, l⟩ := l
  · simp at h
  obtain _ | ⟨b, l⟩ := l
  · exact ⟨a0, a1, a2, a3, a4, a5, a6, rfl⟩
  · simp at h
theorem list8 {α : Type} {l : List α} (h : l.length = 8) : ∃ a0 a1 a2 a3 a4 a5 a6 a7, l = [a0, a1, a2, a3, a4, a5, a6, a7] := by
  obtain _ | ⟨a0, l⟩ := l
  · simp at h
  obtain _ | ⟨a1, l⟩ := l
  · simp at h
  obtain _ | ⟨a2, l⟩ := l
  · simp at h
  obtain _ | ⟨a3, l⟩ := l
  · simp at h
  obtain _ | ⟨a4, l⟩ := l
  · simp at h
  obtain _ | ⟨a5, l⟩ := l
  · simp at h
  obtain _ | ⟨a6, l⟩ := l
  · simp at h
  obtain _ | ⟨a7, l⟩ := l
  · simp at h
  obtain _ | ⟨b, l⟩ := l
  · exact ⟨a0, a1, a2, a3, a4, a5, a6, a7, rfl⟩
  · simp at h
section
variable {H : Type} {enc : TypeId × Value → H} {w : World} {base : Nat} {sp : Nat → Bool} {held : Bool}
theorem c2 : Tryz.prog.cellsOf 2 = 1 := by kernel_rfl
theorem c3 : Tryz.prog.cellsOf 3 = 1 := by kernel_rfl
theorem c4 : Tryz.prog.cellsOf 4 = 1 := by kernel_rfl
theorem c5 : Tryz.prog.cellsOf 5 = 1 := by kernel_rfl
theorem c9 : Tryz.prog.cellsOf 9 = 1 := by kernel_rfl
theorem c23 : Tryz.prog.cellsOf 22 = 1 := by kernel_rfl
theorem c56 : Tryz.prog.cellsOf 46 = 2 := by kernel_rfl
theorem c57 : Tryz.prog.cellsOf 47 = 1 := by kernel_rfl
theorem c58 : Tryz.prog.cellsOf 48 = 1 := by kernel_rfl
theorem c60 : Tryz.prog.cellsOf 50 = 7 := by kernel_rfl
theorem c81 : Tryz.prog.cellsOf 71 = 1 := by kernel_rfl
theorem c83 : Tryz.prog.cellsOf 73 = 3 := by kernel_rfl
theorem c85 : Tryz.prog.cellsOf 75 = 5 := by kernel_rfl
theorem c86 : Tryz.prog.cellsOf 76 = 1 := by kernel_rfl
theorem c88 : Tryz.prog.cellsOf 78 = 1 := by kernel_rfl
theorem c99 : Tryz.prog.cellsOf 42 = 1 := by kernel_rfl
theorem c101 : Tryz.prog.cellsOf 44 = 7 := by kernel_rfl
theorem c116 : Tryz.prog.cellsOf 52 = 8 := by kernel_rfl
theorem agg_part {x : DataW H × List MemPlace} {ys : List (DataW H × List MemPlace)} (hx : x = (.agg (ys.map (·.1)), ys.flatMap (·.2))) {y : DataW H × List MemPlace} (hy : y ∈ ys) : Rows.uptoBulk y.1 ≤ Rows.uptoBulk x.1 := by
  rw [hx]
  simp only [Rows.uptoBulk]
  have := bulk_part (List.mem_map.2 ⟨y, hy, rfl⟩ : y.1 ∈ ys.map (·.1))
  omega
theorem str_size {s : ByteArray} {y : DataW H × List MemPlace} (h : y = (.lit (.string s.data.toList), [])) : s.size ≤ Rows.uptoBulk y.1 := by
  rw [h]
  simp only [Rows.uptoBulk]
  have : s.data.toList.length = s.size := by simp
  omega
theorem read_reg : Reads enc w base sp held 44 Reg.enc Flat Reg.fits (fun _ => 0) := by
  intro fuel cs x h hb
  obtain ⟨ys, n, rfl, hx, hlen, hyl, hf⟩ := DataW.trod_struct Tryz.underlying44 h
  rw [c101] at hlen
  obtain ⟨v0, v1, v2, v3, v4, v5, v6, rfl⟩ := list7 hlen
  obtain ⟨y0, y1, y2, y3, y4, y5, y6, rfl⟩ := list7 hyl
  have g0 := hf 0 _ rfl; have g1 := hf 1 _ rfl; have g2 := hf 2 _ rfl; have g3 := hf 3 _ rfl; have g4 := hf 4 _ rfl; have g5 := hf 5 _ rfl; have g6 := hf 6 _ rfl
  simp [c9, c3, c99, c4] at g0 g1 g2 g3 g4 g5 g6
  obtain ⟨s0, e0, q0, w0⟩ := DataW.trod_string Tryz.underlying9 g0
  obtain ⟨z1, e1, _, w1⟩ := DataW.trod_int Tryz.underlying3 g1
  obtain ⟨z2, e2, _, w2⟩ := DataW.trod_int Tryz.underlying3 g2
  obtain ⟨z3, e3, _, w3⟩ := DataW.trod_int Tryz.underlying3 g3
  obtain ⟨z4, e4, _, w4⟩ := DataW.trod_int Tryz.underlying3 g4
  obtain ⟨z5, e5, _, w5⟩ := DataW.trod_int Tryz.underlying42 g5
  obtain ⟨z6, e6, _⟩ := DataW.trod_bool Tryz.underlying4 g6
  simp at e0 e1 e2 e3 e4 e5 e6
  subst e0 e1 e2 e3 e4 e5 e6
  have k0 := agg_part hx (y := y0) (by simp)
  have k1 := str_size q0
  exact ⟨⟨s0, z1, z2, z3, z4, z5, z6⟩, rfl, trivial, ⟨by simp only; omega, i64_of w1, i64_of w2, i64_of w3, i64_of w4, (u8_of w5).1, (u8_of w5).2⟩, Nat.zero_le _⟩
theorem read_cm : Reads enc w base sp held 52 Cm.enc Flat Cm.fits (fun _ => 0) := by
  intro fuel cs x h hb
  obtain ⟨ys, n, rfl, hx, hlen, hyl, hf⟩ := DataW.trod_struct Tryz.underlying52 h
  rw [c116] at hlen
  obtain ⟨v0, v1, v2, v3, v4, v5, v6, v7, rfl⟩ := list8 hlen
  obtain ⟨y0, y1, y2, y3, y4, y5, y6, y7, rfl⟩ := list8 hyl
  have g0 := hf 0 _ rfl; have g1 := hf 1 _ rfl; have g2 := hf 2 _ rfl; have g3 := hf 3 _ rfl; have g4 := hf 4 _ rfl; have g5 := hf 5 _ rfl; have g6 := hf 6 _ rfl; have g7 := hf 7 _ rfl
  simp [c9, c3, c2, c4] at g0 g1 g2 g3 g4 g5 g6 g7
  obtain ⟨z0, e0, _, w0⟩ := DataW.trod_int Tryz.underlying2 g0
  obtain ⟨z1, e1, _, w1⟩ := DataW.trod_int Tryz.underlying2 g1
  obtain ⟨z2, e2, _, w2⟩ := DataW.trod_int Tryz.underlying3 g2
  obtain ⟨z3, e3, _, w3⟩ := DataW.trod_int Tryz.underlying3 g3
  obtain ⟨s4, e4, q4, _⟩ := DataW.trod_string Tryz.underlying9 g4
  obtain ⟨s5, e5, q5, _⟩ := DataW.trod_string Tryz.underlying9 g5
  obtain ⟨z6, e6, _⟩ := DataW.trod_bool Tryz.underlying4 g6
  obtain ⟨z7, e7, _⟩ := DataW.trod_bool Tryz.underlying4 g7
  simp at e0 e1 e2 e3 e4 e5 e6 e7
  subst e0 e1 e2 e3 e4 e5 e6 e7
  have k4 := agg_part hx (y := y4) (by simp)
  have k5 := agg_part hx (y := y5) (by simp)
  have l4 := str_size q4
  have l5 := str_size q5
  exact ⟨⟨z0, z1, z2, z3, s4, s5, z6, z7⟩, rfl, trivial, ⟨i64_of w0, i64_of w1, i64_of w2, i64_of w3, by simp only; omega, by simp only; omega⟩, Nat.zero_le _⟩
theorem read_run : Reads enc w base sp held 75 Run.enc Flat Run.fits (fun r => r.text.size) := by
  intro fuel cs x h hb
  obtain ⟨ys, n, rfl, hx, hlen, hyl, hf⟩ := DataW.trod_struct Tryz.underlying75 h
  rw [c85] at hlen
  obtain ⟨v0, v1, v2, v3, v4, rfl⟩ := list5 hlen
  obtain ⟨y0, y1, y2, rfl⟩ := list3 hyl
  have g0 := hf 0 _ rfl; have g1 := hf 1 _ rfl; have g2 := hf 2 _ rfl
  simp [c9, c83] at g0 g1 g2
  obtain ⟨s0, e0, q0, _⟩ := DataW.trod_string Tryz.underlying9 g0
  obtain ⟨s4, e4, q4, _⟩ := DataW.trod_string Tryz.underlying9 g2
  obtain ⟨us, n', rfl, hx', hlen', hyl', hf'⟩ := DataW.trod_struct Tryz.underlying73 g1
  obtain ⟨u0, u1, u2, rfl⟩ := list3 hyl'
  have p0 := hf' 0 _ rfl; have p1 := hf' 1 _ rfl; have p2 := hf' 2 _ rfl
  simp [c81, c4] at p0 p1 p2
  obtain ⟨z1, e1, _, w1⟩ := DataW.trod_int Tryz.underlying71 p0
  obtain ⟨z2, e2, _⟩ := DataW.trod_bool Tryz.underlying4 p1
  obtain ⟨z3, e3, _⟩ := DataW.trod_bool Tryz.underlying4 p2
  simp at e0 e1 e2 e3 e4
  subst e0 e1 e2 e3 e4
  have k0 := agg_part hx (y := y0) (by simp)
  have k2 := agg_part hx (y := y2) (by simp)
  have l0 := str_size q0
  have l2 := str_size q4
  exact ⟨⟨s0, z1, z2, z3, s4⟩, rfl, trivial, ⟨by simp only; omega, by simp only; omega, (u8_of w1).1, (u8_of w1).2⟩, by simp only; omega⟩
theorem sumText_eq : ∀ l : List Run, (l.map fun r => r.text.size).sum = sumText l
  | [] => rfl
  | r :: l => by simp [sumText, sumText_eq l]
theorem read_row : Reads enc w base sp held 78 Row.enc Row.lies Row.fits (fun _ => 0) := by
  intro fuel cs x h hb
  obtain ⟨ys, n, rfl, hx, hlen, hyl, hf⟩ := DataW.trod_struct Tryz.underlying78 h
  rw [c88] at hlen
  obtain ⟨v0, rfl⟩ := list1 hlen
  obtain ⟨y0, rfl⟩ := list1 hyl
  have g0 := hf 0 _ rfl
  simp [c86] at g0
  have k0 := agg_part hx (y := y0) (by simp)
  obtain ⟨a, xs, cap, e, hS, hF, hL, hM⟩ := reads_slice Tryz.underlying76 c85 (by decide) (fun _ => rfl) read_run n [v0] y0 g0 (by omega)
  simp at e
  subst e
  rw [sumText_eq] at hM
  exact ⟨⟨a, cap, xs⟩, rfl, hS, ⟨hF, by simp only; omega, by simp only; omega⟩, Nat.zero_le _⟩
theorem read_ev : Reads enc w base sp held 50 Ev.enc Ev.lies Ev.fits (fun _ => 0) := by
  intro fuel cs x h hb
  obtain ⟨ys, n, rfl, hx, hlen, hyl, hf⟩ := DataW.trod_struct Tryz.underlying50 h
  rw [c60] at hlen
  obtain ⟨v0, v1, v2, v3, v4, v5, v6, rfl⟩ := list7 hlen
  obtain ⟨y0, y1, y2, y3, y4, y5, rfl⟩ := list6 hyl
  have g0 := hf 0 _ rfl; have g1 := hf 1 _ rfl; have g2 := hf 2 _ rfl; have g3 := hf 3 _ rfl; have g4 := hf 4 _ rfl; have g5 := hf 5 _ rfl
  simp [c2, c56, c9, c57, c58] at g0 g1 g2 g3 g4 g5
  obtain ⟨z0, e0, _, w0⟩ := DataW.trod_int Tryz.underlying2 g0
  obtain ⟨us, n', rfl, hx', hlen', hyl', hf'⟩ := DataW.trod_struct Tryz.underlying46 g1
  obtain ⟨u0, u1, rfl⟩ := list2 hyl'
  have p0 := hf' 0 _ rfl; have p1 := hf' 1 _ rfl
  simp [c2] at p0 p1
  obtain ⟨z1, e1, _, w1⟩ := DataW.trod_int Tryz.underlying2 p0
  obtain ⟨z2, e2, _, w2⟩ := DataW.trod_int Tryz.underlying2 p1
  obtain ⟨s3, e3, q3, _⟩ := DataW.trod_string Tryz.underlying9 g2
  obtain ⟨z4, e4, _, w4⟩ := DataW.trod_int Tryz.underlying47 g3
  obtain ⟨s5, e5, q5, _⟩ := DataW.trod_string Tryz.underlying9 g4
  have k2 := agg_part hx (y := y2) (by simp)
  have k4 := agg_part hx (y := y4) (by simp)
  have k5 := agg_part hx (y := y5) (by simp)
  have l3 := str_size q3
  have l5 := str_size q5
  obtain ⟨a, xs, cap, e6, hS, hF, hL, hM⟩ := reads_slice Tryz.underlying48 c88 (by decide) (fun _ => rfl) read_row _ [v6] y5 g5 (by omega)
  simp at e0 e1 e2 e3 e4 e5 e6
  subst e0 e1 e2 e3 e4 e5 e6
  exact ⟨⟨z0, z1, z2, s3, z4, s5, a, cap, xs⟩, rfl, hS, ⟨i64_of w0, i64_of w1, i64_of w2, by simp only; omega, (u8_of w4).1, (u8_of w4).2, by simp only; omega, hF, by simp only; omega⟩, Nat.zero_le _⟩
end
end Go.Proofs.YtnlnmbcaongehaaGreatDoor
namespace Go.Proofs.YtnlnmbcaongehaaGreatDoor.diffSeat
open Go.Shelf Go.ChangeShapes Go.WideShapes Go.ChangeAt Go.RowKit Go.Lib
theorem own : ownKnob Tryz.prog.godebug = none := by kernel_rfl
theorem laidOut : laidOutB Tryz.prog = true := by kernel_rfl
def tab32 : List Int := [0, 1, 28, 2, 29, 14, 24, 3, 30, 22, 20, 15, 25, 17, 4, 8, 31, 27, 13, 23, 21, 19, 16, 7, 26, 12, 18, 6, 11, 5, 10, 9]
def tab64 : List Int := [0, 1, 56, 2, 57, 49, 28, 3, 61, 58, 42, 50, 38, 29, 17, 4, 62, 47, 59, 36, 45, 43, 51, 22, 53, 39, 33, 30, 24, 18, 12, 5, 63, 55, 48, 27, 60, 41, 37, 16, 46, 35, 44, 21, 52, 32, 23, 11, 54, 26, 40, 15, 34, 20, 31, 10, 25, 14, 19, 9, 13, 8, 7, 6]
/-- The world of the witness: the tables hold what their initialisers lay. -/
noncomputable def laidWorld (os : Os) : World :=
  let w0 := World.holding Tryz.prog os ⟨#[], #[], []⟩
  let put (h : Array Obj) (g : Nat) (cs : Array Value) : Array Obj := h.modify g fun
    | .cells _ t frozen => .cells cs t frozen
    | o => o
  let h1 := put w0.heap 0 (Lib.firstTab.map fun z => Value.int .u8 z).toArray
  let h2 := put h1 1 ((List.range 16).flatMap fun i => [Value.int .u8 (Lib.accLo i), Value.int .u8 (Lib.accHi i)]).toArray
  let h3 := put h2 2 (Lib.pow10Tab.map fun z => Value.int .u64 z).toArray
  let h4 := put h3 4 (tab32.map fun z => Value.int .u8 z).toArray
  let h5 := put h4 5 (tab64.map fun z => Value.int .u8 z).toArray
  { w0 with heap := h5 }
def zd : Array Value := #[.string ⟨#[]⟩, .string ⟨#[]⟩, .int .u8 0, .bool false, .int .i64 0, .slice none 0 0, .slice none 0 0, .slice none 0 0]
theorem laid_met (os : Os) (args : Array Value) : laidMet Tryz.prog Rows.diffListsUptoRow.laid ((laidWorld os).forCall (fun _ _ => 0) ⟨#[], args, []⟩).memory :=
  laidMet_of_run' 8 (by kernel_rfl) (by kernel_rfl)
theorem first_eq : Rows.laid_unicode_utf8_first = Lib.firstData := by kernel_rfl
theorem accept_eq : (Rows.laid_unicode_utf8_acceptRanges : DataW Unit) = Lib.acceptData := by kernel_rfl
theorem pow_eq : (Rows.laid_internal_strconv_uint64pow10 : DataW Unit) = Lib.tabData .u64 Lib.pow10Tab := by kernel_rfl
theorem laid_list : Rows.diffListsUptoRow.laid = [("math/bits.deBruijn32tab", Rows.laid_math_bits_deBruijn32tab), ("math/bits.deBruijn64tab", Rows.laid_math_bits_deBruijn64tab), ("internal/strconv.uint64pow10", Rows.laid_internal_strconv_uint64pow10), ("unicode/utf8.acceptRanges", Rows.laid_unicode_utf8_acceptRanges), ("unicode/utf8.first", Rows.laid_unicode_utf8_first)] := rfl
theorem max_of {W : World} (h : W.ShapedOpen Tryz.prog) : ∃ m, W.cell? ⟨3, 0, none⟩ = some (.int .i64 m) :=
  Go.Proofs.cell_of_shapedOpen_int (zero := #[.int .i64 0]) (t := 3) h (of_decide_eq_true (by kernel_rfl)) (by kernel_rfl) rfl (by kernel_rfl) (by kernel_rfl) Tryz.underlying3
theorem env_of {W : World} (hL : laidMetH Tryz.prog Rows.diffListsUptoRow.laid W) (hS : W.ShapedOpen Tryz.prog) : Aw W := by
  have hL' : laidMet Tryz.prog Rows.diffListsUptoRow.laid W := by
    rw [Go.MakeChecks.laidMetH_plain _ _ _ (by kernel_rfl)] at hL
    exact hL
  rw [laid_list, first_eq, accept_eq, pow_eq] at hL'
  have h3 := Go.laidMet.tail (Go.laidMet.tail hL')
  have h4 := Go.laidMet.tail h3
  exact ⟨⟨utf8Tabs_of_readsT (U8Types.of196 Tryz.lays196) ⟨by kernel_rfl, by kernel_rfl, by kernel_rfl, by kernel_rfl, by kernel_rfl, by kernel_rfl, by kernel_rfl⟩ (Lib.laidMet.reads h4 (List.Mem.tail _ (List.Mem.head _))) (Lib.laidMet.reads h4 (List.Mem.head _)), max_of hS⟩, Lib.tabIs_of_head (g := 2) (t := 337) (n := 20) (by kernel_rfl) (by kernel_rfl) Tryz.underlying337 Tryz.underlying259 (by kernel_rfl) (by kernel_rfl) h3⟩
end Go.Proofs.YtnlnmbcaongehaaGreatDoor.diffSeat
namespace Go.Proofs.YtnlnmbcaongehaaGreatDoor
open Go.RowKit
theorem u64_wrap (n : Int) : IntKind.u64.wrap n = n % 18446744073709551616 := by simp [IntKind.wrap, IntKind.bits, IntKind.signed]
theorem u64_neg {n : Int} (h0 : -9223372036854775808 ≤ n) (hn : n < 0) : IntKind.u64.wrap (-IntKind.u64.wrap n) = n.natAbs := by
  rw [u64_wrap, u64_wrap]
  omega
theorem dec_len {n : Int} (h0 : -9223372036854775808 ≤ n) (h1 : n ≤ 9223372036854775807) : (Lib.decDigits n.natAbs).length ≤ 21 := by
  have := Lib.itoa_length_le n h0 h1
  unfold Lib.itoa at this
  split at this
  · simp at this
    omega
  · rw [show n.toNat = n.natAbs by omega] at this
    exact this
theorem dec_small {k : Nat} (h : k < 10) : Lib.decDigits k = [UInt8.ofNat (48 + k)] := by rw [Lib.decDigits, dif_pos h]
theorem dec_big {k : Nat} (h : ¬ k < 10) : Lib.decDigits k = Lib.decDigits (k / 10) ++ [UInt8.ofNat (48 + k % 10)] := by rw [Lib.decDigits, dif_neg h]
theorem ba_of {a : ByteArray} {l : List UInt8} (h : a.data.toList = l) : a = ⟨l.toArray⟩ := by
  obtain ⟨⟨d⟩⟩ := a
  simp only at h
  rw [h]
theorem digit_data (k : Nat) (h : k < 10) : ((⟨#[48, 49, 50, 51, 52, 53, 54, 55, 56, 57]⟩ : ByteArray).extract k (k + 1)).data.toList = [UInt8.ofNat (48 + k)] := by
  rw [ByteArray.data_extract, Array.toList_extract]
  match k, h with
  | 0, _ => rfl
  | 1, _ => rfl
  | 2, _ => rfl
  | 3, _ => rfl
  | 4, _ => rfl
  | 5, _ => rfl
  | 6, _ => rfl
  | 7, _ => rfl
  | 8, _ => rfl
  | 9, _ => rfl
theorem dec_neg {n : Int} (hn : n < 0) {k : Nat} (hk : k < 10) {t : ByteArray} (h : Lib.decDigits n.natAbs = Lib.decDigits k ++ t.data.toList) : (⟨#[45]⟩ : ByteArray) ++ (⟨#[48, 49, 50, 51, 52, 53, 54, 55, 56, 57]⟩ : ByteArray).extract k (k + 1) ++ t = decB n := by
  refine ba_of ?_
  rw [ByteArray.data_append, Array.toList_append, ByteArray.data_append, Array.toList_append, digit_data k hk, ← dec_small hk, List.append_assoc, ← h]
  unfold Lib.itoa
  rw [if_pos hn]
  rfl
theorem dec_pos {n : Int} (hn : ¬ n < 0) {k : Nat} (hk : k < 10) {t : ByteArray} (h : Lib.decDigits n.natAbs = Lib.decDigits k ++ t.data.toList) : (⟨#[]⟩ : ByteArray) ++ (⟨#[48, 49, 50, 51, 52, 53, 54, 55, 56, 57]⟩ : ByteArray).extract k (k + 1) ++ t = decB n := by
  refine ba_of ?_
  rw [ByteArray.data_append, Array.toList_append, ByteArray.data_append, Array.toList_append, digit_data k hk, ← dec_small hk, List.append_assoc, ← h]
  unfold Lib.itoa
  rw [if_neg hn, show n.toNat = n.natAbs by omega]
  rfl
theorem dec_round {N k : Nat} (hk : ¬ k < 10) {t : ByteArray} (h : Lib.decDigits N = Lib.decDigits k ++ t.data.toList) : Lib.decDigits N = Lib.decDigits (k / 10) ++ ((⟨#[48, 49, 50, 51, 52, 53, 54, 55, 56, 57]⟩ : ByteArray).extract (k % 10) (k % 10 + 1) ++ t).data.toList := by
  rw [ByteArray.data_append, Array.toList_append, digit_data _ (by omega), h, dec_big hk, List.append_assoc]
set_option maxRecDepth 100000 in
set_option maxHeartbeats 3200000 in
theorem refDecimal_calls (n : Int) (h0 : -9223372036854775808 ≤ n) (h1 : n ≤ 9223372036854775807) (w : World) :
    Calls Tryz.prog 124 #[.int .i64 n] w fun e w' => e = .returned (.string (decB n)) ∧ Below w.heap.size w w' := by
  by_cases hn : n < 0
  · have HPN := Lib.hid (fun (k : Nat) (hk : k < 10) (t : ByteArray) h => dec_neg hn hk (t := t) h)
    go_enter Tryz.func124, Tryz.ntmps124
    have hd : decide (n < 0) = true := by simp [hn]
    go_wp2_with fail
    go_loopw [3, 6] (fun u s wr => ∃ (k : Nat) (t : ByteArray), u = .int .u64 k ∧ s = .string t ∧ Lib.decDigits n.natAbs = Lib.decDigits k ++ t.data.toList ∧ k < 18446744073709551616 ∧ wr = w) (fun u _ _ => (intOf u).toNat)
    case atStart => exact ⟨n.natAbs, ⟨#[]⟩, by rw [u64_neg h0 hn], rfl, by simp, by omega, rfl⟩
    case round =>
      obtain ⟨k, t, rfl, rfl, hd, hk, rfl⟩ := hrel
      have hts : t.size ≤ 21 := by
        have := congrArg List.length hd
        rw [List.length_append] at this
        have := dec_len h0 h1
        show t.data.size ≤ 21
        rw [← Array.length_toList]
        omega
      by_cases hlt : k < 10
      · have hg : (((k : Nat) : Int) ≥ 10) = False := by simp; omega
        go_wp2_with fail
        go_ret
        exact ⟨by rw [HPN.out k hlt t hd]; rfl, Below.refl _ _⟩
      · have hg : (((k : Nat) : Int) ≥ 10) = True := by simp; omega
        have HR := Lib.hid (dec_round hlt hd)
        go_wp2_with fail
        exact ⟨⟨k / 10, _, by go_num, rfl, HR.out, by omega, trivial⟩, by simp [intOf]; omega⟩
  · have HPN := Lib.hid (fun (k : Nat) (hk : k < 10) (t : ByteArray) h => dec_pos hn hk (t := t) h)
    go_enter Tryz.func124, Tryz.ntmps124
    have hd : decide (n < 0) = false := by simp [hn]
    go_wp2_with fail
    go_loopw [3, 6] (fun u s wr => ∃ (k : Nat) (t : ByteArray), u = .int .u64 k ∧ s = .string t ∧ Lib.decDigits n.natAbs = Lib.decDigits k ++ t.data.toList ∧ k < 18446744073709551616 ∧ wr = w) (fun u _ _ => (intOf u).toNat)
    case atStart => exact ⟨n.natAbs, ⟨#[]⟩, by congr 1; omega, rfl, by simp, by omega, rfl⟩
    case round =>
      obtain ⟨k, t, rfl, rfl, hd, hk, rfl⟩ := hrel
      have hts : t.size ≤ 21 := by
        have := congrArg List.length hd
        rw [List.length_append] at this
        have := dec_len h0 h1
        show t.data.size ≤ 21
        rw [← Array.length_toList]
        omega
      by_cases hlt : k < 10
      · have hg : (((k : Nat) : Int) ≥ 10) = False := by simp; omega
        go_wp2_with fail
        go_ret
        exact ⟨by rw [HPN.out k hlt t hd]; rfl, Below.refl _ _⟩
      · have hg : (((k : Nat) : Int) ≥ 10) = True := by simp; omega
        have HR := Lib.hid (dec_round hlt hd)
        go_wp2_with fail
        exact ⟨⟨k / 10, _, by go_num, rfl, HR.out, by omega, trivial⟩, by simp [intOf]; omega⟩
end Go.Proofs.YtnlnmbcaongehaaGreatDoor
namespace Go.Proofs.YtnlnmbcaongehaaGreatDoor
open Go.RowKit
def placeOf (sec id : Int) (name : ByteArray) : ByteArray :=
  if sec = 1 then wHEAD else if sec = 2 then (⟨#[82, 69, 71, 73, 79, 78, 32]⟩ : ByteArray) ++ name else if sec = 3 then (⟨#[69, 86, 69, 78, 84, 32]⟩ : ByteArray) ++ decB id else if sec = 4 then (⟨#[67, 79, 77, 77, 69, 78, 84, 32]⟩ : ByteArray) ++ decB id else wASK
theorem join_two (a b : List UInt8) : Lib.join [a, b] [32] = a ++ ([32] ++ b) := by
  rw [Lib.join_cons]
  simp [Lib.joinTail]
theorem placeOf_join (c : Chg) : (placeOf c.sec c.id c.name).data.toList = Lib.join ((placeWords c).map (·.data.toList)) [32] := by
  unfold placeOf placeWords
  split
  · rw [List.map_cons, List.map_nil, Lib.join_one]
  · split
    · rw [ByteArray.data_append, Array.toList_append, List.map_cons, List.map_cons, List.map_nil, join_two]
      rfl
    · split
      · rw [ByteArray.data_append, Array.toList_append, List.map_cons, List.map_cons, List.map_nil, join_two]
        rfl
      · split
        · rw [ByteArray.data_append, Array.toList_append, List.map_cons, List.map_cons, List.map_nil, join_two]
          rfl
        · rw [List.map_cons, List.map_nil, Lib.join_one]
theorem decB_size {n : Int} (h0 : -9223372036854775808 ≤ n) (h1 : n ≤ 9223372036854775807) : (decB n).size ≤ 21 := by
  have := Lib.itoa_length_le n h0 h1
  show (Lib.itoa n).toArray.size ≤ 21
  rw [List.size_toArray]
  exact this
theorem placeOf_size (sec id : Int) (name : ByteArray) (h0 : -9223372036854775808 ≤ id) (h1 : id ≤ 9223372036854775807) (hn : name.size ≤ 4000000) : (placeOf sec id name).size ≤ 4000100 := by
  have hd := decB_size h0 h1
  unfold placeOf
  split
  · decide
  · split
    · rw [ByteArray.size_append]
      have : (⟨#[82, 69, 71, 73, 79, 78, 32]⟩ : ByteArray).size = 7 := rfl
      omega
    · split
      · rw [ByteArray.size_append]
        have : (⟨#[69, 86, 69, 78, 84, 32]⟩ : ByteArray).size = 6 := rfl
        omega
      · split
        · rw [ByteArray.size_append]
          have : (⟨#[67, 79, 77, 77, 69, 78, 84, 32]⟩ : ByteArray).size = 8 := rfl
          omega
        · decide
set_option maxRecDepth 100000 in
set_option maxHeartbeats 3200000 in
theorem place17_calls (sec id : Int) (name : ByteArray) (w : World) (h0 : -9223372036854775808 ≤ id) (h1 : id ≤ 9223372036854775807) (hn : name.size ≤ 4000000) :
    Calls Tryz.prog 70 #[.int .u8 sec, .string name, .int .i64 id] w fun e w' => e = .returned (.string (placeOf sec id name)) ∧ Below w.heap.size w w' := by
  have HD := Lib.hid (refDecimal_calls id h0 h1 w)
  have hd := decB_size h0 h1
  unfold placeOf
  by_cases e1 : sec = 1
  · subst e1
    go_enter Tryz.func70, Tryz.ntmps70
    go_wp2_with fail
    go_ret
    exact ⟨rfl, Below.refl _ _⟩
  · by_cases e2 : sec = 2
    · subst e2
      go_enter Tryz.func70, Tryz.ntmps70
      go_wp2_with fail
      go_ret
      exact ⟨rfl, Below.refl _ _⟩
    · by_cases e3 : sec = 3
      · rw [if_neg e1, if_neg e2, if_pos e3]
        subst e3
        go_enter Tryz.func70, Tryz.ntmps70
        go_wp2_with fail
        refine HD.out.mono ?_
        rintro e w1 ⟨rfl, hb1⟩
        generalize hD : decB id = D at *
        go_wp2_with fail
        go_ret
        exact ⟨by rw [hD]; rfl, hb1⟩
      · by_cases e4 : sec = 4
        · rw [if_neg e1, if_neg e2, if_neg e3, if_pos e4]
          subst e4
          go_enter Tryz.func70, Tryz.ntmps70
          go_wp2_with fail
          refine HD.out.mono ?_
          rintro e w1 ⟨rfl, hb1⟩
          generalize hD : decB id = D at *
          go_wp2_with fail
          go_ret
          exact ⟨by rw [hD]; rfl, hb1⟩
        · rw [if_neg e1, if_neg e2, if_neg e3, if_neg e4]
          go_enter Tryz.func70, Tryz.ntmps70
          go_wp2_with fail
          go_ret
          exact ⟨rfl, Below.refl _ _⟩
end Go.Proofs.YtnlnmbcaongehaaGreatDoor
namespace Go.Proofs.YtnlnmbcaongehaaGreatDoor
open Go.RowKit
/-- The order of a document's lists. -/
def EvC.lt (x y : EvC) : Prop := x.inn < y.inn ∨ (x.inn = y.inn ∧ x.id < y.id)
structure DocOk (c : DocC) : Prop where
  regs : c.regs.Pairwise fun x y => baLt x.name y.name
  cms : c.cms.Pairwise fun x y => x.id < y.id
  ids : c.evs.Pairwise fun x y => x.id ≠ y.id
  ord : c.evs.Pairwise EvC.lt
end Go.Proofs.YtnlnmbcaongehaaGreatDoor
