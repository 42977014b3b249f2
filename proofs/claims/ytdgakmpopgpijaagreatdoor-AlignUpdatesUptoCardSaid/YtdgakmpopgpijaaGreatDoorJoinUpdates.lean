/- The walks of AlignUpdates (JoinUCard has the card). AlignUpdates: the links after a change of the template are the specified ones. Conditions: the arguments hold together at most 1048576 values and letters (the second form); the library's tables are as their text lays them (the card ties them). -/
import Derived.Test.YtdgakmpopgpijaaGreatDoorSame
import Derived.Test.YtdgakmpopgpijaaGreatDoorDoc
import Derived.Deep.RegionHeld3
import Derived.BigQuiet
import Derived.Deep.QuietTactic
import Derived.Test.YtdgakmpopgpijaaGreatDoorUpd
import Derived.Test.YtdgakmpopgpijaaGreatDoorJoinC
import Derived.Test.YtdgakmpopgpijaaGreatDoorStays
import Derived.Test.YtdgakmpopgpijaaGreatDoorJoinD
import Derived.Test.YtdgakmpopgpijaaGreatDoorJoinR
import Derived.Deep.AppendLies
import Derived.Test.YtdgakmpopgpijaaGreatDoorAwake
set_option linter.unusedVariables false
/- The contracts of the reference's Same and SameRows. -/
namespace Go.Proofs.YtdgakmpopgpijaaGreatDoor
open Go.RowKit

theorem refSame_len (a a' : Option Addr) (n m c c' : Nat) (w : World) (h : ¬ n = m) : Calls Tryz.prog 131 #[.agg #[.slice a n c], .agg #[.slice a' m c']] w fun e w' => e = .returned (.bool false) ∧ Below w.heap.size w w' := by
  have h1 : (n != m) = true := by simpa using h
  have h2 : ((n : Int) != (m : Int)) = true := by simp; omega
  have HB := Lib.hid (fun o o' => (((Below.refl _ _).alloc (Nat.le_refl _) _).alloc (by simp) _ : Below w.heap.size w ((w.alloc o).alloc o')))
  go_enter Tryz.func131, Tryz.ntmps131
  go_wp2_with fail
  go_ret
  exact ⟨rfl, HB.out _ _⟩

set_option maxHeartbeats 1600000 in
theorem refSame_eq (a a' : Option Addr) (c c' : Nat) (xs ys : List Run) (w : World) (h : Runs w a xs) (h' : Runs w a' ys) (hl : xs.length ≤ 4000000) (hn : xs.length = ys.length) :
    Calls Tryz.prog 131 #[.agg #[.slice a xs.length c], .agg #[.slice a' ys.length c']] w fun e w' => e = .returned (.bool (Lib.allEq runEq xs ys)) ∧ Below w.heap.size w w' := by
  generalize hG : Lib.allEq runEq xs ys = G
  have H0 := Lib.hid (show Lib.allEq runEq (xs.drop 0) (ys.drop 0) = G from hG)
  have HNN := Lib.hid hn
  rw [← hn]
  clear hG hn
  have h1 : ((xs.length : Int) != (xs.length : Int)) = false := by simp
  generalize hds : #[Value.slice a xs.length c] = ds
  generalize hes : #[Value.slice a' xs.length c'] = es
  have f0 := box2_fst w ds es 88 88 0 (.slice a xs.length c) (by rw [← hds]; rfl)
  have g0 := box2_snd w ds es 88 88 0 (.slice a' xs.length c') (by rw [← hes]; rfl)
  have HB := Lib.hid (fun (w1 : World) (h : Below (w.heap.size + 2) ((w.alloc (.cells ds 88)).alloc (.cells es 88)) w1) => box2_below h)
  have hb0 : Below (w.heap.size + 2) ((w.alloc (.cells ds 88)).alloc (.cells es 88)) ((w.alloc (.cells ds 88)).alloc (.cells es 88)) := Below.refl _ _
  generalize hW0 : (w.alloc (.cells ds 88)).alloc (.cells es 88) = W0 at *
  have HW0 := Lib.hid hW0
  clear hW0
  go_enter Tryz.func131, Tryz.ntmps131
  subst hds
  subst hes
  go_wp2_with fail
  rw [HW0.out]
  go_loopw [16] (fun i wr => ∃ k : Nat, k ≤ xs.length ∧ i = .int .i64 k ∧ Lib.allEq runEq (xs.drop k) (ys.drop k) = G ∧ Below (w.heap.size + 2) W0 wr) (fun i _ => xs.length - (intOf i).toNat)
  case atStart => exact ⟨0, by omega, rfl, H0.out, hb0⟩
  case round =>
    obtain ⟨k, hk, rfl, hp, hb⟩ := hrel
    by_cases hlt : k < xs.length
    · obtain ⟨b, off, r, rfl, hbl, hx, hc, hok⟩ := (h.later (HB.out _ hb)).at_ hlt
      obtain ⟨b', off', s, rfl, hbl', hy, hc', hok'⟩ := (h'.later (HB.out _ hb)).at_ (show k < ys.length by rw [← HNN.out]; exact hlt)
      rw [allEq_at runEq xs ys k r s hx hy] at hp
      have hne := run_runNe r s
      have HP := Lib.hid hp
      have hltd : decide (k < xs.length) = true := by simpa using hlt
      generalize runEq r s = E at *
      obtain ⟨t, cc, i, u, ru⟩ := r
      obtain ⟨t2, cc2, i2, u2, ru2⟩ := s
      simp only [Run.enc] at hne
      have d0 := hc 0 _ rfl; have d1 := hc 1 _ rfl; have d2 := hc 2 _ rfl; have d3 := hc 3 _ rfl; have d4 := hc 4 _ rfl
      have e0 := hc' 0 _ rfl; have e1 := hc' 1 _ rfl; have e2 := hc' 2 _ rfl; have e3 := hc' 3 _ rfl; have e4 := hc' 4 _ rfl
      simp only [Nat.add_zero] at d0 d1 d2 d3 d4 e0 e1 e2 e3 e4
      clear hc hc' hp hx hy hok hok' H0
      have hlt2 : (k : Int) < (xs.length : Int) := by omega
      cases E
      · go_wp2_with fail
        go_quiet (fail)
        go_wp2_with fail
        go_ret
        exact ⟨by rw [← HP.out]; rfl, HB.out _ (below_drewN hb _)⟩
      · go_wp2_with fail
        go_quiet (fail)
        go_wp2_with fail
        go_roundw
        case rel => exact ⟨k + 1, by omega, by go_num, by rw [← HP.out]; simp, below_drewN hb _⟩
        case measure => simp [intOf]; omega
    · obtain rfl : k = xs.length := by omega
      have hp2 : true = G := by
        rw [← hp, List.drop_length, HNN.out, List.drop_length, allEq_nil]
      have HP := Lib.hid hp2
      clear hp hp2 H0
      go_wp2_with fail
      go_ret
      exact ⟨by rw [← HP.out]; rfl, HB.out _ hb⟩

theorem refSame_calls (r s : Row) (w : World) (h : r.lies w) (h' : s.lies w) (hl : r.runs.length ≤ 4000000) :
    Calls Tryz.prog 131 #[.agg r.enc.toArray, .agg s.enc.toArray] w fun e w' => e = .returned (.bool (rowEq r s)) ∧ Below w.heap.size w w' := by
  obtain ⟨a, c, xs⟩ := r
  obtain ⟨a', c', ys⟩ := s
  unfold rowEq
  simp only [Row.enc, Row.lies] at *
  by_cases hn : xs.length = ys.length
  · exact refSame_eq a a' c c' xs ys w h h' hl hn
  · rw [Lib.allEq_len runEq xs ys hn]
    exact refSame_len a a' _ _ c c' w hn

theorem refRows_len (a a' : Option Addr) (n m c c' : Nat) (w : World) (h : ¬ n = m) : Calls Tryz.prog 103 #[.slice a n c, .slice a' m c'] w fun e w' => e = .returned (.bool false) ∧ Below w.heap.size w w' := by
  have h1 : (n != m) = true := by simpa using h
  have h2 : ((n : Int) != (m : Int)) = true := by simp; omega
  go_enter Tryz.func103, Tryz.ntmps103
  go_wp2_with fail
  go_ret
  exact ⟨rfl, Below.refl _ _⟩

set_option maxHeartbeats 1600000 in
theorem refRows_eq (a a' : Option Addr) (c c' : Nat) (xs ys : List Row) (w : World) (h : RowsAt' w a xs) (h' : RowsAt' w a' ys) (hf : ∀ r ∈ xs, r.runs.length ≤ 4000000) (hl : xs.length ≤ 4000000) (hn : xs.length = ys.length) :
    Calls Tryz.prog 103 #[.slice a xs.length c, .slice a' ys.length c'] w fun e w' => e = .returned (.bool (Lib.allEq rowEq xs ys)) ∧ Below w.heap.size w w' := by
  have HT := Lib.hid (fun (w2 w3 : World) (h : Below w.heap.size w w2) (h3 : Below w2.heap.size w2 w3) => (h.trans (h3.mono h.size) : Below w.heap.size w w3))
  generalize hG : Lib.allEq rowEq xs ys = G
  have H0 := Lib.hid (show Lib.allEq rowEq (xs.drop 0) (ys.drop 0) = G from hG)
  have HNN := Lib.hid hn
  rw [← hn]
  clear hG hn
  have h1 : ((xs.length : Int) != (xs.length : Int)) = false := by simp
  go_enter Tryz.func103, Tryz.ntmps103
  go_wp2_with fail
  go_loopw [13] (fun i wr => ∃ k : Nat, k ≤ xs.length ∧ i = .int .i64 k ∧ Lib.allEq rowEq (xs.drop k) (ys.drop k) = G ∧ Below w.heap.size w wr) (fun i _ => xs.length - (intOf i).toNat)
  case atStart => exact ⟨0, by omega, rfl, H0.out, Below.refl _ _⟩
  case round =>
    obtain ⟨k, hk, rfl, hp, hb⟩ := hrel
    by_cases hlt : k < xs.length
    · obtain ⟨b, off, r, rfl, hbl, hx, hc, hok⟩ := SliceOf.at_ h hlt
      obtain ⟨b', off', s, rfl, hbl', hy, hc', hok'⟩ := SliceOf.at_ h' (show k < ys.length by rw [← HNN.out]; exact hlt)
      have HC := Lib.hid (fun (w1 : World) (q : Below w.heap.size w w1) => (refSame_calls r s w1 (Row.keeps _ _ _ q hok) (Row.keeps _ _ _ q hok') (hf r (List.mem_of_getElem? hx))).mono (fun e w' (p : e = .returned (.bool (rowEq r s)) ∧ Below w1.heap.size w1 w') => (show e = .returned (.bool (rowEq r s)) ∧ Below w.heap.size w w' from ⟨p.1, HT.out _ _ q p.2⟩)))
      rw [allEq_at rowEq xs ys k r s hx hy] at hp
      have HP := Lib.hid hp
      have hltd : decide (k < xs.length) = true := by simpa using hlt
      have q0 := fun (w1 : World) (q : Below w.heap.size w w1) => (q.cell (p := ⟨b, off + k * 1 + 0, none⟩) hbl).trans (hc 0 _ rfl)
      have q1 := fun (w1 : World) (q : Below w.heap.size w w1) => (q.cell (p := ⟨b', off' + k * 1 + 0, none⟩) hbl').trans (hc' 0 _ rfl)
      simp only [Nat.add_zero, Nat.mul_one] at q0 q1
      obtain ⟨ra, rc, rr⟩ := r
      obtain ⟨sa, sc, ss⟩ := s
      generalize rowEq ⟨ra, rc, rr⟩ ⟨sa, sc, ss⟩ = E at *
      simp only [Row.enc] at HC q0 q1
      clear hc hc' hp hx hy hok hok' H0
      have hlt2 : (k : Int) < (xs.length : Int) := by omega
      have hb0d : Below w.heap.size w wr.drew := hb.drew
      cases E
      · go_wp2_with fail
        go_region_held3 (fun w' => Below w.heap.size w w') (first | assumption | exact hb0d) (first | (go_at_call 131; ((with_reducible refine (HC.out _ ?_).mono ?_); assumption); rintro e w4 ⟨rfl, hc4⟩))
        all_goals
          go_wp2_with fail
          go_ret
          exact ⟨by rw [← HP.out]; rfl, by assumption⟩
      · go_wp2_with fail
        go_region_held3 (fun w' => Below w.heap.size w w') (first | assumption | exact hb0d) (first | (go_at_call 131; ((with_reducible refine (HC.out _ ?_).mono ?_); assumption); rintro e w4 ⟨rfl, hc4⟩))
        all_goals
          go_wp2_with fail
          go_roundw
          case rel => exact ⟨k + 1, by omega, by go_num, by rw [← HP.out]; simp, by assumption⟩
          case measure => simp [intOf]; omega
    · obtain rfl : k = xs.length := by omega
      have hp2 : true = G := by
        rw [← hp, List.drop_length, HNN.out, List.drop_length, allEq_nil]
      have HP := Lib.hid hp2
      clear hp hp2 H0
      go_wp2_with fail
      go_ret
      exact ⟨by rw [← HP.out]; rfl, hb⟩

theorem refRows_calls (a a' : Option Addr) (c c' : Nat) (xs ys : List Row) (w : World) (h : RowsAt' w a xs) (h' : RowsAt' w a' ys) (hf : ∀ r ∈ xs, r.runs.length ≤ 4000000) (hl : xs.length ≤ 4000000) :
    Calls Tryz.prog 103 #[.slice a xs.length c, .slice a' ys.length c'] w fun e w' => e = .returned (.bool (rowsEq xs ys)) ∧ Below w.heap.size w w' := by
  unfold rowsEq
  by_cases hn : xs.length = ys.length
  · exact refRows_eq a a' c c' xs ys w h h' hf hl hn
  · rw [Lib.allEq_len rowEq xs ys hn]
    exact refRows_len a a' _ _ c c' w hn


end Go.Proofs.YtdgakmpopgpijaaGreatDoor

/- The contract of the reference's covers. -/
namespace Go.Proofs.YtdgakmpopgpijaaGreatDoor
open Go.RowKit

/-- Whether the links that are no orphans are those of the events: none is missing, and they are as many. -/
def covGo (evs : List Ev) : List Lk → Nat → Bool
  | [], n => decide (n = evs.length)
  | x :: l, n => if x.st = 4 then covGo evs l n else if posOf (hasId x.tpl) evs < 0 then false else covGo evs l (n + 1)

set_option maxRecDepth 100000 in
set_option maxHeartbeats 3200000 in
theorem covers_calls (a : Option Addr) (cap : Nat) (xs : List Lk) (d : Doc) (w : World) (hx : LksAt w a xs) (hlx : xs.length ≤ 4000000) (hr : EvsAt w d.ea d.evs) (hl : d.evs.length ≤ 4000000) :
    Calls Tryz.prog 34 #[.slice a xs.length cap, .agg d.enc.toArray] w fun e w' => e = .returned (.bool (covGo d.evs xs 0)) ∧ Below w.heap.size w w' := by
  have hF := fun (id : Int) (w1 : World) (h : Below w.heap.size w w1) => refDocFind_calls d id w1 (hr.later h) hl
  have HX := Lib.hid hx
  obtain ⟨title, lang, rate, drop, last, ra, rc, regs, ea, ec, evs, ca, cc, cms⟩ := d
  simp only at hl hF
  simp only [Doc.enc] at hF ⊢
  generalize hG : covGo evs xs 0 = G
  have H0 := Lib.hid (show covGo evs (xs.drop 0) 0 = G from hG)
  have HF := Lib.hid hF
  clear hG hx hr hF
  generalize hds : #[Value.string title, .string lang, .int .u8 rate, .bool drop, .int .i64 last, .slice ra regs.length rc, .slice ea evs.length ec, .slice ca cms.length cc] = ds at *
  have f0 := box_cell w ds 28 0 (.string title) (by rw [← hds]; rfl)
  have f1 := box_cell w ds 28 1 (.string lang) (by rw [← hds]; rfl)
  have f2 := box_cell w ds 28 2 (.int .u8 rate) (by rw [← hds]; rfl)
  have f3 := box_cell w ds 28 3 (.bool drop) (by rw [← hds]; rfl)
  have f4 := box_cell w ds 28 4 (.int .i64 last) (by rw [← hds]; rfl)
  have f5 := box_cell w ds 28 5 (.slice ra regs.length rc) (by rw [← hds]; rfl)
  have f6 := box_cell w ds 28 6 (.slice ea evs.length ec) (by rw [← hds]; rfl)
  have f7 := box_cell w ds 28 7 (.slice ca cms.length cc) (by rw [← hds]; rfl)
  have HB := Lib.hid (fun (w1 : World) (h : Below (w.heap.size + 1) (w.alloc (.cells ds 28)) w1) => box_below h)
  have hb0 : Below (w.heap.size + 1) (w.alloc (.cells ds 28)) (w.alloc (.cells ds 28)) := Below.refl _ _
  have hsz : (w.alloc (.cells ds 28)).heap.size = w.heap.size + 1 := World.size_alloc _ _
  generalize hW0 : w.alloc (.cells ds 28) = W0 at *
  have HW0 := Lib.hid hW0
  have HLT := Lib.hid (fun (w1 : World) (h : Below (w.heap.size + 1) W0 w1) => (show w.heap.size + 1 ≤ w1.heap.size by have := h.size; rw [hsz] at this; exact this))
  have HT0 := Lib.hid (fun (w2 w3 : World) (h : Below (w.heap.size + 1) W0 w2) (h3 : Below w2.heap.size w2 w3) => h.trans (h3.mono (HLT.out _ h)))
  clear hW0 hsz
  go_enter Tryz.func34, Tryz.ntmps34
  subst hds
  go_wp2_with fail
  rw [HW0.out]
  go_loopw [5, 10] (fun v i wr => ∃ (k acc : Nat), k ≤ xs.length ∧ acc ≤ k ∧ i = .int .i64 k ∧ v = .int .i64 acc ∧ covGo evs (xs.drop k) acc = G ∧ Below (w.heap.size + 1) W0 wr) (fun _ i _ => xs.length - (intOf i).toNat)
  case atStart => exact ⟨0, 0, by omega, by omega, rfl, rfl, H0.out, hb0⟩
  case round =>
    obtain ⟨k, acc, hk, hak, rfl, rfl, hp, hb⟩ := hrel
    clear H0
    have hbL : ∀ o : Obj, Below (w.heap.size + 1) W0 (wr.alloc o) := fun o => hb.alloc (HLT.out _ hb) o
    by_cases hlt : k < xs.length
    · obtain ⟨b, off, x, rfl, hbl, hxk, hc, _⟩ := (HX.out.later (HB.out _ hb)).at_ hlt
      rw [drop_at xs k x hxk, covGo] at hp
      obtain ⟨tpl, tgt, st⟩ := x
      have d0 := hc 0 _ rfl; have d1 := hc 1 _ rfl; have d2 := hc 2 _ rfl
      simp only [Nat.add_zero] at d0 d1 d2
      simp only at hp
      have HC := Lib.hid (HF.out tpl)
      generalize posOf (hasId tpl) evs = N at *
      clear hc hxk
      by_cases hs : st = 4
      · subst hs
        rw [if_pos rfl] at hp
        have HP := Lib.hid hp
        clear hp
        go_wp2_with fail
        go_roundw
        case rel => exact ⟨k + 1, acc, by omega, by omega, by go_num, rfl, HP.out, hbL _⟩
        case measure => simp [intOf]; omega
      · have hs2 : (st == 4) = false := by simpa using hs
        rw [if_neg hs] at hp
        by_cases hN : N < 0
        · rw [if_pos hN] at hp
          have HP := Lib.hid hp
          clear hp hs
          go_wp2_with fail
          refine (HC.out _ (HB.out _ (hbL _))).mono ?_
          rintro e w5 ⟨rfl, hb5⟩
          have hc5 := HT0.out _ _ (hbL _) hb5
          clear hb5
          go_wp2_with fail
          go_ret
          exact ⟨by rw [← HP.out]; rfl, HB.out _ hc5⟩
        · rw [if_neg hN] at hp
          have HP := Lib.hid hp
          have hN2 : 0 ≤ N := by omega
          clear hp hs hN
          go_wp2_with fail
          refine (HC.out _ (HB.out _ (hbL _))).mono ?_
          rintro e w5 ⟨rfl, hb5⟩
          have hc5 := HT0.out _ _ (hbL _) hb5
          clear hb5
          go_wp2_with fail
          go_roundw
          case rel => exact ⟨k + 1, acc + 1, by omega, by omega, by go_num, by go_num, HP.out, hc5⟩
          case measure => simp [intOf]; omega
    · obtain rfl : k = xs.length := by omega
      rw [List.drop_length, covGo] at hp
      have HP := Lib.hid (show ((acc : Int) == (evs.length : Int)) = G by rw [← hp, Bool.eq_iff_iff]; simp; omega)
      clear hp
      go_wp2_with fail
      go_ret
      exact ⟨by rw [← HP.out]; rfl, HB.out _ hb⟩



end Go.Proofs.YtdgakmpopgpijaaGreatDoor

/- The contract of the reference's changed. -/
namespace Go.Proofs.YtdgakmpopgpijaaGreatDoor
open Go.RowKit

/-- A block of zero values for an event, and that it stands. -/
structure ZEv (g : Nat) (w : World) : Prop where
  lt : g < w.heap.size
  c0 : w.cell? ⟨g, 0, none⟩ = some (.int .i64 0)
  c1 : w.cell? ⟨g, 1, none⟩ = some (.int .i64 0)
  c2 : w.cell? ⟨g, 2, none⟩ = some (.int .i64 0)
  c3 : w.cell? ⟨g, 3, none⟩ = some (.string ⟨#[]⟩)
  c4 : w.cell? ⟨g, 4, none⟩ = some (.int .u8 0)
  c5 : w.cell? ⟨g, 5, none⟩ = some (.string ⟨#[]⟩)
  c6 : w.cell? ⟨g, 6, none⟩ = some (.slice none 0 0)
  z0 : w.frozen? ⟨g, 0, none⟩ = false
  z1 : w.frozen? ⟨g, 1, none⟩ = false
  z2 : w.frozen? ⟨g, 2, none⟩ = false
  z3 : w.frozen? ⟨g, 3, none⟩ = false
  z4 : w.frozen? ⟨g, 4, none⟩ = false
  z5 : w.frozen? ⟨g, 5, none⟩ = false
  z6 : w.frozen? ⟨g, 6, none⟩ = false
def zev : Array Value := #[.int .i64 0, .int .i64 0, .int .i64 0, .string ⟨#[]⟩, .int .u8 0, .string ⟨#[]⟩, .slice none 0 0]
theorem ZEv.of {g : Nat} {w : World} (h : w.heap[g]? = some (.cells zev 60)) : ZEv g w :=
  ⟨(Array.getElem?_eq_some_iff.1 h).1, cell_of_row _ _ 0 zev 60 (0, 0) h, cell_of_row _ _ 1 zev 60 (0, 0) h, cell_of_row _ _ 2 zev 60 (0, 0) h, cell_of_row _ _ 3 zev 60 (0, 0) h, cell_of_row _ _ 4 zev 60 (0, 0) h, cell_of_row _ _ 5 zev 60 (0, 0) h, cell_of_row _ _ 6 zev 60 (0, 0) h,
   frozen_of_row _ _ 0 zev 60 h, frozen_of_row _ _ 1 zev 60 h, frozen_of_row _ _ 2 zev 60 h, frozen_of_row _ _ 3 zev 60 h, frozen_of_row _ _ 4 zev 60 h, frozen_of_row _ _ 5 zev 60 h, frozen_of_row _ _ 6 zev 60 h⟩
theorem zbox {w w' : World} {g : Nat} (hb : Below (w.alloc (.cells zev 60)).heap.size (w.alloc (.cells zev 60)) w') (hg : g = w.heap.size) : ZEv g w' := by
  subst hg
  exact .of ((hb.block w.heap.size (by simp)).trans (heap_alloc_last w _))
theorem zbox2 {w w' : World} {g g' : Nat} (hb : Below ((w.alloc (.cells zev 60)).alloc (.cells zev 60)).heap.size ((w.alloc (.cells zev 60)).alloc (.cells zev 60)) w') (hg : g = w.heap.size) (hg' : g' = w.heap.size + 1) : ZEv g w' ∧ ZEv g' w' := by
  subst hg
  subst hg'
  refine ⟨.of ((hb.block w.heap.size (by simp; omega)).trans (alloc_blk (heap_alloc_last w _) _)), .of ((hb.block (w.heap.size + 1) (by simp)).trans ?_)⟩
  have := heap_alloc_last (w.alloc (.cells zev 60)) (.cells zev 60)
  rwa [World.size_alloc] at this
theorem ZEv.later {g : Nat} {w w' : World} (h : ZEv g w) (hb : Below w.heap.size w w') : ZEv g w' := by
  obtain ⟨l, c0, c1, c2, c3, c4, c5, c6, z0, z1, z2, z3, z4, z5, z6⟩ := h
  exact ⟨Nat.lt_of_lt_of_le l hb.size, (hb.cell (p := ⟨g, 0, none⟩) l).trans c0, (hb.cell (p := ⟨g, 1, none⟩) l).trans c1, (hb.cell (p := ⟨g, 2, none⟩) l).trans c2, (hb.cell (p := ⟨g, 3, none⟩) l).trans c3, (hb.cell (p := ⟨g, 4, none⟩) l).trans c4, (hb.cell (p := ⟨g, 5, none⟩) l).trans c5, (hb.cell (p := ⟨g, 6, none⟩) l).trans c6, (hb.frozen (p := ⟨g, 0, none⟩) l).trans z0, (hb.frozen (p := ⟨g, 1, none⟩) l).trans z1, (hb.frozen (p := ⟨g, 2, none⟩) l).trans z2, (hb.frozen (p := ⟨g, 3, none⟩) l).trans z3, (hb.frozen (p := ⟨g, 4, none⟩) l).trans z4, (hb.frozen (p := ⟨g, 5, none⟩) l).trans z5, (hb.frozen (p := ⟨g, 6, none⟩) l).trans z6⟩
theorem below_two {B : Nat} {W w : World} (h : Below B W w) (hB : B ≤ w.heap.size) (o o' : Obj) : Below B W ((w.alloc o).alloc o') := (h.alloc hB o).alloc (by simp; omega) o'

set_option maxRecDepth 100000 in
set_option maxHeartbeats 6400000 in
theorem changed_calls (d d' : Doc) (id : Int) (w : World) (hd : EvsAt w d.ea d.evs) (hd' : EvsAt w d'.ea d'.evs) (hl : d.evs.length ≤ 4000000) (hl' : d'.evs.length ≤ 4000000) (hf : ∀ e ∈ d.evs, e.fits) (hf' : ∀ e ∈ d'.evs, e.fits)
    (i k : Nat) (a b : Ev) (hI : posOf (hasId id) d.evs = i) (hK : posOf (hasId id) d'.evs = k) (hi : d.evs[i]? = some a) (hk : d'.evs[k]? = some b) :
    Calls Tryz.prog 61 #[.agg d.enc.toArray, .agg d'.enc.toArray, .int .i64 id] w fun e w' => e = .returned (.bool (evChanged a b)) ∧ Below w.heap.size w w' := by
  have hF1 := fun (w1 : World) (h : Below w.heap.size w w1) => refDocFind_calls d id w1 (hd.later h) hl
  have hF2 := fun (w1 : World) (h : Below w.heap.size w w1) => refDocFind_calls d' id w1 (hd'.later h) hl'
  rw [hI] at hF1
  rw [hK] at hF2
  have hil : i < d.evs.length := (List.getElem?_eq_some_iff.1 hi).1
  have hkl : k < d'.evs.length := (List.getElem?_eq_some_iff.1 hk).1
  obtain ⟨bb, off, a', hea, hbl, ha', hca, hoka⟩ := hd.at_ hil
  obtain rfl : a' = a := Option.some.inj (ha'.symm.trans hi)
  obtain ⟨bb', off', b', hea', hbl', hb', hcb, hokb⟩ := hd'.at_ hkl
  obtain rfl : b' = b := Option.some.inj (hb'.symm.trans hk)
  have hfa := hf _ (List.mem_of_getElem? hi)
  have hfb := hf' _ (List.mem_of_getElem? hk)
  have HCA := Lib.hid (fun j v (hv : a'.enc[j]? = some v) w1 (h : Below w.heap.size w w1) => (h.cell (p := ⟨bb, off + i * 7 + j, none⟩) hbl).trans (hca j v hv))
  have HCB := Lib.hid (fun j v (hv : b'.enc[j]? = some v) w1 (h : Below w.heap.size w w1) => (h.cell (p := ⟨bb', off' + k * 7 + j, none⟩) hbl').trans (hcb j v hv))
  have hSR := fun (w1 : World) (h : Below w.heap.size w w1) => refRows_calls a'.at_ b'.at_ a'.cap b'.cap a'.rows b'.rows w1 (Ev.keeps _ _ _ h hoka) (Ev.keeps _ _ _ h hokb) (fun r hr => (hfa.2.2.2.2.2.2.2.1 r hr).2.1) hfa.2.2.2.2.2.2.2.2
  clear hi hk ha' hb' hca hcb hoka hokb hfa hfb hf hf' hd hd' hI hK
  obtain ⟨title, lang, rate, drop, last, ra, rc, regs, ea, ec, evs, ca, cc, cms⟩ := d
  obtain ⟨title', lang', rate', drop', last', ra', rc', regs', ea', ec', evs', ca', cc', cms'⟩ := d'
  simp only at hea hea' hil hkl hl hl'
  subst hea
  subst hea'
  obtain ⟨xid, xin, xout, xreg, xkind, xsp, xa, xc, xrows⟩ := a'
  obtain ⟨yid, yin, yout, yreg, ykind, ysp, ya, yc, yrows⟩ := b'
  simp only [Ev.enc] at HCA HCB hSR
  unfold evChanged
  simp only [Doc.enc] at hF1 hF2 ⊢
  generalize rowsEq xrows yrows = RE at *
  generalize hds : #[Value.string title, .string lang, .int .u8 rate, .bool drop, .int .i64 last, .slice ra regs.length rc, .slice (some ⟨bb, off, none⟩) evs.length ec, .slice ca cms.length cc] = ds at *
  generalize hes : #[Value.string title', .string lang', .int .u8 rate', .bool drop', .int .i64 last', .slice ra' regs'.length rc', .slice (some ⟨bb', off', none⟩) evs'.length ec', .slice ca' cms'.length cc'] = es at *
  have f0 := box2_fst w ds es 28 28 0 (.string title) (by rw [← hds]; rfl)
  have f1 := box2_fst w ds es 28 28 1 (.string lang) (by rw [← hds]; rfl)
  have f2 := box2_fst w ds es 28 28 2 (.int .u8 rate) (by rw [← hds]; rfl)
  have f3 := box2_fst w ds es 28 28 3 (.bool drop) (by rw [← hds]; rfl)
  have f4 := box2_fst w ds es 28 28 4 (.int .i64 last) (by rw [← hds]; rfl)
  have f5 := box2_fst w ds es 28 28 5 (.slice ra regs.length rc) (by rw [← hds]; rfl)
  have f6 := box2_fst w ds es 28 28 6 (.slice (some ⟨bb, off, none⟩) evs.length ec) (by rw [← hds]; rfl)
  have f7 := box2_fst w ds es 28 28 7 (.slice ca cms.length cc) (by rw [← hds]; rfl)
  have g0 := box2_snd w ds es 28 28 0 (.string title') (by rw [← hes]; rfl)
  have g1 := box2_snd w ds es 28 28 1 (.string lang') (by rw [← hes]; rfl)
  have g2 := box2_snd w ds es 28 28 2 (.int .u8 rate') (by rw [← hes]; rfl)
  have g3 := box2_snd w ds es 28 28 3 (.bool drop') (by rw [← hes]; rfl)
  have g4 := box2_snd w ds es 28 28 4 (.int .i64 last') (by rw [← hes]; rfl)
  have g5 := box2_snd w ds es 28 28 5 (.slice ra' regs'.length rc') (by rw [← hes]; rfl)
  have g6 := box2_snd w ds es 28 28 6 (.slice (some ⟨bb', off', none⟩) evs'.length ec') (by rw [← hes]; rfl)
  have g7 := box2_snd w ds es 28 28 7 (.slice ca' cms'.length cc') (by rw [← hes]; rfl)
  have HB := Lib.hid (fun (w1 : World) (h : Below (w.heap.size + 2) ((w.alloc (.cells ds 28)).alloc (.cells es 28)) w1) => box2_below h)
  have hb0 : Below (w.heap.size + 2) ((w.alloc (.cells ds 28)).alloc (.cells es 28)) ((w.alloc (.cells ds 28)).alloc (.cells es 28)) := Below.refl _ _
  have hsz : ((w.alloc (.cells ds 28)).alloc (.cells es 28)).heap.size = w.heap.size + 2 := by simp
  generalize hW0 : (w.alloc (.cells ds 28)).alloc (.cells es 28) = W0 at *
  have HW0 := Lib.hid hW0
  have HLT := Lib.hid (fun (w1 : World) (h : Below (w.heap.size + 2) W0 w1) => (show w.heap.size + 2 ≤ w1.heap.size by have := h.size; rw [hsz] at this; exact this))
  have HT0 := Lib.hid (fun (w2 w3 : World) (h : Below (w.heap.size + 2) W0 w2) (h3 : Below w2.heap.size w2 w3) => h.trans (h3.mono (HLT.out _ h)))
  have HF1 := Lib.hid (fun (w1 : World) (h : Below (w.heap.size + 2) W0 w1) => (hF1 w1 (HB.out _ h)).mono (fun e w' (p : e = .returned (.int .i64 i) ∧ Below w1.heap.size w1 w') => (show e = .returned (.int .i64 i) ∧ Below (w.heap.size + 2) W0 w' ∧ Below w1.heap.size w1 w' from ⟨p.1, HT0.out _ _ h p.2, p.2⟩)))
  have HF2 := Lib.hid (fun (w1 : World) (h : Below (w.heap.size + 2) W0 w1) => (hF2 w1 (HB.out _ h)).mono (fun e w' (p : e = .returned (.int .i64 k) ∧ Below w1.heap.size w1 w') => (show e = .returned (.int .i64 k) ∧ Below (w.heap.size + 2) W0 w' ∧ Below w1.heap.size w1 w' from ⟨p.1, HT0.out _ _ h p.2, p.2⟩)))
  have HSR := Lib.hid (fun (w1 : World) (h : Below (w.heap.size + 2) W0 w1) => (hSR w1 (HB.out _ h)).mono (fun e w' (p : e = .returned (.bool RE) ∧ Below w1.heap.size w1 w') => (show e = .returned (.bool RE) ∧ Below (w.heap.size + 2) W0 w' from ⟨p.1, HT0.out _ _ h p.2⟩)))
  have hb0d : Below (w.heap.size + 2) W0 W0.drew := hb0.drew
  have hBW : w.heap.size + 2 ≤ W0.heap.size := by rw [hsz]; exact Nat.le_refl _
  have u0 := fun w1 h => HCA.out 0 _ rfl w1 (HB.out w1 h); have v0 := fun w1 h => HCB.out 0 _ rfl w1 (HB.out w1 h)
  have u1 := fun w1 h => HCA.out 1 _ rfl w1 (HB.out w1 h); have v1 := fun w1 h => HCB.out 1 _ rfl w1 (HB.out w1 h)
  have u2 := fun w1 h => HCA.out 2 _ rfl w1 (HB.out w1 h); have v2 := fun w1 h => HCB.out 2 _ rfl w1 (HB.out w1 h)
  have u3 := fun w1 h => HCA.out 3 _ rfl w1 (HB.out w1 h); have v3 := fun w1 h => HCB.out 3 _ rfl w1 (HB.out w1 h)
  have u4 := fun w1 h => HCA.out 4 _ rfl w1 (HB.out w1 h); have v4 := fun w1 h => HCB.out 4 _ rfl w1 (HB.out w1 h)
  have u5 := fun w1 h => HCA.out 5 _ rfl w1 (HB.out w1 h); have v5 := fun w1 h => HCB.out 5 _ rfl w1 (HB.out w1 h)
  have u6 := fun w1 h => HCA.out 6 _ rfl w1 (HB.out w1 h); have v6 := fun w1 h => HCB.out 6 _ rfl w1 (HB.out w1 h)
  simp only [Nat.add_zero] at u0 v0
  clear hW0 hsz hF1 hF2 hSR HCA HCB
  by_cases hk5 : xkind = ykind
  · subst hk5
    have h5d : (xkind != xkind) = false := by simp
    rw [h5d, Bool.false_or]
    go_enter Tryz.func61, Tryz.ntmps61
    subst hds
    subst hes
    go_wp2_with fail
    rw [HW0.out]
    go_region_held3 (fun w' => Below (w.heap.size + 2) W0 w') (repeat (first | with_reducible assumption | with_reducible exact hb0d | with_reducible refine Below.setCell ?_ (by dsimp only; first | omega | (simp; omega)) _ | with_reducible refine below_alloc1 ?_ hBW _ | with_reducible refine Below.drew ?_)) (first | (go_at_call 43; (first | ((with_reducible refine (HF1.out _ ?_).mono ?_); assumption) | ((with_reducible refine (HF2.out _ ?_).mono ?_); assumption)); rintro e w1 ⟨rfl, hb1, hr1⟩; have hs1 := HLT.out _ hb1; (first | (have hZ := zbox2 (g := W0.heap.size) (g' := W0.heap.size + 1) (w := W0.drew) hr1 rfl rfl; have HZP := Lib.hid hZ; obtain ⟨⟨l, c0, c1, c2, c3, c4, c5, c6, z0, z1, z2, z3, z4, z5, z6⟩, ⟨l', c0', c1', c2', c3', c4', c5', c6', z0', z1', z2', z3', z4', z5', z6'⟩⟩ := hZ) | (have hZ := zbox (g := W0.heap.size) (w := W0.drew) hr1 rfl; have HZK := Lib.hid hZ; obtain ⟨l, c0, c1, c2, c3, c4, c5, c6, z0, z1, z2, z3, z4, z5, z6⟩ := hZ) | (have hZ := zbox2 hr1 rfl rfl; obtain ⟨⟨l, c0, c1, c2, c3, c4, c5, c6, z0, z1, z2, z3, z4, z5, z6⟩, ⟨l', c0', c1', c2', c3', c4', c5', c6', z0', z1', z2', z3', z4', z5', z6'⟩⟩ := hZ) | (have hY := HZK.out.later ((Below.refl _ _).alloc (Nat.le_refl _) (.cells zev 60)); have hZ := hY.later hr1; have hZ2 := zbox hr1 rfl; obtain ⟨l, c0, c1, c2, c3, c4, c5, c6, z0, z1, z2, z3, z4, z5, z6⟩ := hZ; obtain ⟨l', c0', c1', c2', c3', c4', c5', c6', z0', z1', z2', z3', z4', z5', z6'⟩ := hZ2) | (have hZ := HZP.out.1.later hr1; have hZ2 := HZP.out.2.later hr1; obtain ⟨l, c0, c1, c2, c3, c4, c5, c6, z0, z1, z2, z3, z4, z5, z6⟩ := hZ; obtain ⟨l', c0', c1', c2', c3', c4', c5', c6', z0', z1', z2', z3', z4', z5', z6'⟩ := hZ2) | (have hZ := HZK.out.later hr1; obtain ⟨l, c0, c1, c2, c3, c4, c5, c6, z0, z1, z2, z3, z4, z5, z6⟩ := hZ) | (have hZ := zbox hr1 rfl; have HZK := Lib.hid hZ; obtain ⟨l, c0, c1, c2, c3, c4, c5, c6, z0, z1, z2, z3, z4, z5, z6⟩ := hZ) | skip); clear hr1))
    all_goals
      clear f0 f1 f2 f3 f4 f5 f6 f7 g0 g1 g2 g3 g4 g5 g6 g7 u0 u1 u2 u3 u4 u5 u6 v0 v1 v2 v3 v4 v5 v6
      go_wp2_with (go_at_call 103; refine (HSR.out _ (by first | assumption | exact below_alloc1 (below_alloc1 (by assumption) hBW _) hBW _)).mono ?_; rintro e w5 ⟨rfl, hb5⟩)
      go_ret
      exact ⟨rfl, HB.out _ (by assumption)⟩
  · have h5d : (xkind != ykind) = true := by simpa using hk5
    rw [h5d, Bool.true_or]
    go_enter Tryz.func61, Tryz.ntmps61
    subst hds
    subst hes
    go_wp2_with fail
    rw [HW0.out]
    go_region_held3 (fun w' => Below (w.heap.size + 2) W0 w') (repeat (first | with_reducible assumption | with_reducible exact hb0d | with_reducible refine Below.setCell ?_ (by dsimp only; first | omega | (simp; omega)) _ | with_reducible refine below_alloc1 ?_ hBW _ | with_reducible refine Below.drew ?_)) (first | (go_at_call 43; (first | ((with_reducible refine (HF1.out _ ?_).mono ?_); assumption) | ((with_reducible refine (HF2.out _ ?_).mono ?_); assumption)); rintro e w1 ⟨rfl, hb1, hr1⟩; have hs1 := HLT.out _ hb1; (first | (have hZ := zbox2 (g := W0.heap.size) (g' := W0.heap.size + 1) (w := W0.drew) hr1 rfl rfl; have HZP := Lib.hid hZ; obtain ⟨⟨l, c0, c1, c2, c3, c4, c5, c6, z0, z1, z2, z3, z4, z5, z6⟩, ⟨l', c0', c1', c2', c3', c4', c5', c6', z0', z1', z2', z3', z4', z5', z6'⟩⟩ := hZ) | (have hZ := zbox (g := W0.heap.size) (w := W0.drew) hr1 rfl; have HZK := Lib.hid hZ; obtain ⟨l, c0, c1, c2, c3, c4, c5, c6, z0, z1, z2, z3, z4, z5, z6⟩ := hZ) | (have hZ := zbox2 hr1 rfl rfl; obtain ⟨⟨l, c0, c1, c2, c3, c4, c5, c6, z0, z1, z2, z3, z4, z5, z6⟩, ⟨l', c0', c1', c2', c3', c4', c5', c6', z0', z1', z2', z3', z4', z5', z6'⟩⟩ := hZ) | (have hY := HZK.out.later ((Below.refl _ _).alloc (Nat.le_refl _) (.cells zev 60)); have hZ := hY.later hr1; have hZ2 := zbox hr1 rfl; obtain ⟨l, c0, c1, c2, c3, c4, c5, c6, z0, z1, z2, z3, z4, z5, z6⟩ := hZ; obtain ⟨l', c0', c1', c2', c3', c4', c5', c6', z0', z1', z2', z3', z4', z5', z6'⟩ := hZ2) | (have hZ := HZP.out.1.later hr1; have hZ2 := HZP.out.2.later hr1; obtain ⟨l, c0, c1, c2, c3, c4, c5, c6, z0, z1, z2, z3, z4, z5, z6⟩ := hZ; obtain ⟨l', c0', c1', c2', c3', c4', c5', c6', z0', z1', z2', z3', z4', z5', z6'⟩ := hZ2) | (have hZ := HZK.out.later hr1; obtain ⟨l, c0, c1, c2, c3, c4, c5, c6, z0, z1, z2, z3, z4, z5, z6⟩ := hZ) | (have hZ := zbox hr1 rfl; have HZK := Lib.hid hZ; obtain ⟨l, c0, c1, c2, c3, c4, c5, c6, z0, z1, z2, z3, z4, z5, z6⟩ := hZ) | skip); clear hr1))
    all_goals
      clear f0 f1 f2 f3 f4 f5 f6 f7 g0 g1 g2 g3 g4 g5 g6 g7 u0 u1 u2 u3 u4 u5 u6 v0 v1 v2 v3 v4 v5 v6
      go_wp2_with fail
      go_ret
      exact ⟨rfl, HB.out _ (by first | assumption | exact below_alloc1 (below_alloc1 (by assumption) hBW _) hBW _)⟩



end Go.Proofs.YtdgakmpopgpijaaGreatDoor

/- The contract of the reference's next: a link after the template has changed. -/
namespace Go.Proofs.YtdgakmpopgpijaaGreatDoor
open Go.RowKit

set_option maxRecDepth 100000 in
set_option maxHeartbeats 6400000 in
theorem next_calls (x : Lk) (d d' : Doc) (w : World) (hd : EvsAt w d.ea d.evs) (hd' : EvsAt w d'.ea d'.evs) (hl : d.evs.length ≤ 4000000) (hl' : d'.evs.length ≤ 4000000) (hf : ∀ e ∈ d.evs, e.fits) (hf' : ∀ e ∈ d'.evs, e.fits) (hpre : x.st = 1 → 0 ≤ posOf (hasId x.tpl) d.evs) :
    Calls Tryz.prog 36 #[.agg x.enc.toArray, .agg d.enc.toArray, .agg d'.enc.toArray] w (UpdPost (updLk x d.evs d'.evs) w) := by
  have hcs := upd_cases x d.evs d'.evs _ _ rfl rfl
  have hF2 := fun w1 h => refDocFind_calls d' x.tpl w1 h hl'
  have hCH := fun (w1 : World) (h : Below w.heap.size w w1) (i k : Nat) (a b : Ev) (hI : posOf (hasId x.tpl) d.evs = i) (hK : posOf (hasId x.tpl) d'.evs = k) (hi : d.evs[i]? = some a) (hk : d'.evs[k]? = some b) => changed_calls d d' x.tpl w1 (hd.later h) (hd'.later h) hl hl' hf hf' i k a b hI hK hi hk
  unfold UpdPost
  generalize hG : updLk x d.evs d'.evs = G at *
  have b1 := posOf_bd (hasId x.tpl) d.evs
  have b2 := posOf_bd (hasId x.tpl) d'.evs
  generalize posOf (hasId x.tpl) d.evs = I at *
  generalize posOf (hasId x.tpl) d'.evs = K at *
  obtain ⟨tpl, tgt, st⟩ := x
  obtain ⟨title, lang, rate, drop, last, ra, rc, regs, ea, ec, evs, ca, cc, cms⟩ := d
  obtain ⟨title', lang', rate', drop', last', ra', rc', regs', ea', ec', evs', ca', cc', cms'⟩ := d'
  simp only at hcs hd hd' hl hl' hf hf' b1 b2 hF2 hCH hpre
  simp only [Doc.enc, Lk.enc] at hF2 hCH ⊢
  generalize hxs : #[Value.int .i64 tpl, .int .i64 tgt, .int .u8 st] = xs
  generalize hzs : #[Value.int .i64 0, .int .i64 0, .int .u8 0] = zs
  generalize hds : #[Value.string title, .string lang, .int .u8 rate, .bool drop, .int .i64 last, .slice ra regs.length rc, .slice ea evs.length ec, .slice ca cms.length cc] = ds at *
  generalize hes : #[Value.string title', .string lang', .int .u8 rate', .bool drop', .int .i64 last', .slice ra' regs'.length rc', .slice ea' evs'.length ec', .slice ca' cms'.length cc'] = es at *
  have q0 : ((((w.alloc (.cells xs 49)).alloc (.cells ds 28)).alloc (.cells es 28)).alloc (.cells zs 49)).heap[w.heap.size]? = some (.cells xs 49) := alloc_blk (alloc_blk (alloc_blk (heap_alloc_last _ _) _) _) _
  have q1 : ((((w.alloc (.cells xs 49)).alloc (.cells ds 28)).alloc (.cells es 28)).alloc (.cells zs 49)).heap[w.heap.size + 1]? = some (.cells ds 28) := alloc_blk (alloc_blk (by have := heap_alloc_last (w.alloc (.cells xs 49)) (.cells ds 28); rwa [World.size_alloc] at this) _) _
  have q2 : ((((w.alloc (.cells xs 49)).alloc (.cells ds 28)).alloc (.cells es 28)).alloc (.cells zs 49)).heap[w.heap.size + 2]? = some (.cells es 28) := alloc_blk (by have := heap_alloc_last ((w.alloc (.cells xs 49)).alloc (.cells ds 28)) (.cells es 28); rwa [World.size_alloc, World.size_alloc] at this) _
  have q3 : ((((w.alloc (.cells xs 49)).alloc (.cells ds 28)).alloc (.cells es 28)).alloc (.cells zs 49)).heap[w.heap.size + 3]? = some (.cells zs 49) := by have := heap_alloc_last (((w.alloc (.cells xs 49)).alloc (.cells ds 28)).alloc (.cells es 28)) (.cells zs 49); rwa [World.size_alloc, World.size_alloc, World.size_alloc] at this
  have hB0 : Below w.heap.size w ((((w.alloc (.cells xs 49)).alloc (.cells ds 28)).alloc (.cells es 28)).alloc (.cells zs 49)) := (((((Below.refl _ _).alloc (Nat.le_refl _) _).alloc (by simp) _).alloc (by simp; omega) _).alloc (by simp; omega) _)
  have hsz : ((((w.alloc (.cells xs 49)).alloc (.cells ds 28)).alloc (.cells es 28)).alloc (.cells zs 49)).heap.size = w.heap.size + 4 := by simp
  have hb0 : Below (w.heap.size + 4) ((((w.alloc (.cells xs 49)).alloc (.cells ds 28)).alloc (.cells es 28)).alloc (.cells zs 49)) ((((w.alloc (.cells xs 49)).alloc (.cells ds 28)).alloc (.cells es 28)).alloc (.cells zs 49)) := Below.refl _ _
  generalize hW0 : ((((w.alloc (.cells xs 49)).alloc (.cells ds 28)).alloc (.cells es 28)).alloc (.cells zs 49)) = W0 at *
  have c0 := blk_cell (B := w.heap.size + 4) q0 (by omega) 0 (.int .i64 tpl) (by rw [← hxs]; rfl)
  have c1 := blk_cell (B := w.heap.size + 4) q0 (by omega) 1 (.int .i64 tgt) (by rw [← hxs]; rfl)
  have c2 := blk_cell (B := w.heap.size + 4) q0 (by omega) 2 (.int .u8 st) (by rw [← hxs]; rfl)
  have y0 := blk_free (B := w.heap.size + 4) q0 (by omega) 0
  have y1 := blk_free (B := w.heap.size + 4) q0 (by omega) 1
  have y2 := blk_free (B := w.heap.size + 4) q0 (by omega) 2
  have e0 := blk_cell (B := w.heap.size + 4) q3 (by omega) 0 (.int .i64 0) (by rw [← hzs]; rfl)
  have e1 := blk_cell (B := w.heap.size + 4) q3 (by omega) 1 (.int .i64 0) (by rw [← hzs]; rfl)
  have e2 := blk_cell (B := w.heap.size + 4) q3 (by omega) 2 (.int .u8 0) (by rw [← hzs]; rfl)
  have z0 := blk_free (B := w.heap.size + 4) q3 (by omega) 0
  have z1 := blk_free (B := w.heap.size + 4) q3 (by omega) 1
  have z2 := blk_free (B := w.heap.size + 4) q3 (by omega) 2
  have f0 := blk_cell (B := w.heap.size + 4) q1 (by omega) 0 (.string title) (by rw [← hds]; rfl)
  have f1 := blk_cell (B := w.heap.size + 4) q1 (by omega) 1 (.string lang) (by rw [← hds]; rfl)
  have f2 := blk_cell (B := w.heap.size + 4) q1 (by omega) 2 (.int .u8 rate) (by rw [← hds]; rfl)
  have f3 := blk_cell (B := w.heap.size + 4) q1 (by omega) 3 (.bool drop) (by rw [← hds]; rfl)
  have f4 := blk_cell (B := w.heap.size + 4) q1 (by omega) 4 (.int .i64 last) (by rw [← hds]; rfl)
  have f5 := blk_cell (B := w.heap.size + 4) q1 (by omega) 5 (.slice ra regs.length rc) (by rw [← hds]; rfl)
  have f6 := blk_cell (B := w.heap.size + 4) q1 (by omega) 6 (.slice ea evs.length ec) (by rw [← hds]; rfl)
  have f7 := blk_cell (B := w.heap.size + 4) q1 (by omega) 7 (.slice ca cms.length cc) (by rw [← hds]; rfl)
  have g0 := blk_cell (B := w.heap.size + 4) q2 (by omega) 0 (.string title') (by rw [← hes]; rfl)
  have g1 := blk_cell (B := w.heap.size + 4) q2 (by omega) 1 (.string lang') (by rw [← hes]; rfl)
  have g2 := blk_cell (B := w.heap.size + 4) q2 (by omega) 2 (.int .u8 rate') (by rw [← hes]; rfl)
  have g3 := blk_cell (B := w.heap.size + 4) q2 (by omega) 3 (.bool drop') (by rw [← hes]; rfl)
  have g4 := blk_cell (B := w.heap.size + 4) q2 (by omega) 4 (.int .i64 last') (by rw [← hes]; rfl)
  have g5 := blk_cell (B := w.heap.size + 4) q2 (by omega) 5 (.slice ra' regs'.length rc') (by rw [← hes]; rfl)
  have g6 := blk_cell (B := w.heap.size + 4) q2 (by omega) 6 (.slice ea' evs'.length ec') (by rw [← hes]; rfl)
  have g7 := blk_cell (B := w.heap.size + 4) q2 (by omega) 7 (.slice ca' cms'.length cc') (by rw [← hes]; rfl)
  have HBB := Lib.hid (fun (w1 : World) (h : Below (w.heap.size + 4) W0 w1) => hB0.trans (h.mono (by omega)))
  have HLT := Lib.hid (fun (w1 : World) (h : Below (w.heap.size + 4) W0 w1) => (show w.heap.size + 4 ≤ w1.heap.size by have := h.size; rw [hsz] at this; exact this))
  have HT0 := Lib.hid (fun (w2 w3 : World) (h : Below (w.heap.size + 4) W0 w2) (h3 : Below w2.heap.size w2 w3) => h.trans (h3.mono (HLT.out _ h)))
  have HF2 := Lib.hid (fun (w1 : World) (h : Below (w.heap.size + 4) W0 w1) => hF2 w1 (hd'.later (HBB.out _ h)))
  have HCH := Lib.hid (fun (w1 : World) (h : Below (w.heap.size + 4) W0 w1) => hCH w1 (HBB.out _ h))
  have HW0 := Lib.hid hW0
  clear hW0 hF2 hCH q0 q1 q2 q3 hB0 hsz hd hd' hf hf' hG
  subst hzs
  rcases hcs with ⟨h1, rfl, rfl⟩ | ⟨h1, h2, rfl⟩ | ⟨h1, rfl, rfl⟩ | ⟨h1, h2, h3, rfl⟩ | ⟨h1, rfl, h4, rfl⟩ | ⟨i, k, a, b, rfl, rfl, hi, hk, rfl, hcs⟩
  · have h1d : decide (K < 0) = true := by simp; omega
    clear HCH
    go_enter Tryz.func36, Tryz.ntmps36
    subst hds
    subst hes
    subst hxs
    go_wp2_with fail
    rw [HW0.out]
    refine (HF2.out _ hb0).mono ?_
    rintro e w1 ⟨rfl, hb1⟩
    have hc1 := HT0.out _ _ hb0 hb1
    have hlt1 := HLT.out _ hc1
    have l0 : w.heap.size < w1.heap.size := by omega
    have l2 : w.heap.size + 3 < w1.heap.size := by omega
    clear hb1
    go_wp2_with fail
    exact bodyPost_ret (v := .tuple #[.agg #[.int .i64 tpl, .int .i64 tgt, .int .u8 3], .bool false]) (by simp [results, Tryz.results36, go_sem, *]) rfl ⟨rfl, by repeat (first | exact HBB.out _ (by assumption) | refine Below.setCell ?_ (by dsimp only; omega) _ | refine Below.drew ?_ | refine Below.alloc ?_ (by simp; omega) _)⟩
  · have h1d : decide (K < 0) = true := by simp; omega
    have h2d : (st == 3) = false := by simpa using h2
    clear h2 HCH
    go_enter Tryz.func36, Tryz.ntmps36
    subst hds
    subst hes
    subst hxs
    go_wp2_with fail
    rw [HW0.out]
    refine (HF2.out _ hb0).mono ?_
    rintro e w1 ⟨rfl, hb1⟩
    have hc1 := HT0.out _ _ hb0 hb1
    have hlt1 := HLT.out _ hc1
    have l0 : w.heap.size < w1.heap.size := by omega
    have l2 : w.heap.size + 3 < w1.heap.size := by omega
    clear hb1
    go_wp2_with fail
    exact bodyPost_ret (v := .tuple #[.agg #[.int .i64 tpl, .int .i64 tgt, .int .u8 4], .bool true]) (by simp [results, Tryz.results36, go_sem, *]) rfl ⟨rfl, by repeat (first | exact HBB.out _ (by assumption) | refine Below.setCell ?_ (by dsimp only; omega) _ | refine Below.drew ?_ | refine Below.alloc ?_ (by simp; omega) _)⟩
  · have h1d : decide (K < 0) = false := by simp; omega
    clear HCH
    go_enter Tryz.func36, Tryz.ntmps36
    subst hds
    subst hes
    subst hxs
    go_wp2_with fail
    rw [HW0.out]
    refine (HF2.out _ hb0).mono ?_
    rintro e w1 ⟨rfl, hb1⟩
    have hc1 := HT0.out _ _ hb0 hb1
    have hlt1 := HLT.out _ hc1
    have l0 : w.heap.size < w1.heap.size := by omega
    have l2 : w.heap.size + 3 < w1.heap.size := by omega
    clear hb1
    go_wp2_with fail
    exact bodyPost_ret (v := .tuple #[.agg #[.int .i64 tpl, .int .i64 tgt, .int .u8 2], .bool true]) (by simp [results, Tryz.results36, go_sem, *]) rfl ⟨rfl, by repeat (first | exact HBB.out _ (by assumption) | refine Below.setCell ?_ (by dsimp only; omega) _ | refine Below.drew ?_ | refine Below.alloc ?_ (by simp; omega) _)⟩
  · have h1d : decide (K < 0) = false := by simp; omega
    have h2d : (st == 4) = false := by simpa using h2
    have h3d : (st == 1) = false := by simpa using h3
    clear h2 h3 HCH
    go_enter Tryz.func36, Tryz.ntmps36
    subst hds
    subst hes
    subst hxs
    go_wp2_with fail
    rw [HW0.out]
    refine (HF2.out _ hb0).mono ?_
    rintro e w1 ⟨rfl, hb1⟩
    have hc1 := HT0.out _ _ hb0 hb1
    have hlt1 := HLT.out _ hc1
    have l0 : w.heap.size < w1.heap.size := by omega
    have l2 : w.heap.size + 3 < w1.heap.size := by omega
    clear hb1
    go_wp2_with fail
    exact bodyPost_ret (v := .tuple #[.agg #[.int .i64 tpl, .int .i64 tgt, .int .u8 st], .bool true]) (by simp [results, Tryz.results36, go_sem, *]) rfl ⟨rfl, by repeat (first | exact HBB.out _ (by assumption) | refine Below.setCell ?_ (by dsimp only; omega) _ | refine Below.drew ?_ | refine Below.alloc ?_ (by simp; omega) _)⟩
  · exact absurd (hpre rfl) (by omega)
  · have h1d : decide ((k : Int) < 0) = false := by simp
    have hch := fun (w1 : World) (h : Below (w.heap.size + 4) W0 w1) => HCH.out w1 h i k a b rfl rfl hi hk
    have hev : evChanged a b = (a.kind != b.kind || !rowsEq a.rows b.rows) := rfl
    clear HCH hi hk hpre
    generalize evChanged a b = EC at *
    generalize rowsEq a.rows b.rows = RE at *
    have HC := Lib.hid hch
    clear hch
    rcases hcs with ⟨h5, rfl⟩ | ⟨h5, ⟨rfl, rfl⟩ | ⟨rfl, rfl⟩⟩
    · obtain rfl : EC = true := by rw [hev]; simp [h5]
      clear hev h5
      go_enter Tryz.func36, Tryz.ntmps36
      subst hds
      subst hes
      subst hxs
      go_wp2_with fail
      rw [HW0.out]
      refine (HF2.out _ hb0).mono ?_
      rintro e w1 ⟨rfl, hb1⟩
      have hc1 := HT0.out _ _ hb0 hb1
      have hlt1 := HLT.out _ hc1
      have l0 : w.heap.size < w1.heap.size := by omega
      have l2 : w.heap.size + 3 < w1.heap.size := by omega
      clear hb1
      go_wp2_with fail
      refine (HC.out _ hc1).mono ?_
      rintro e w2 ⟨rfl, hb2⟩
      have hc2 := HT0.out _ _ hc1 hb2
      have hlt2 := HLT.out _ hc2
      have l0' : w.heap.size < w2.heap.size := by omega
      have l2' : w.heap.size + 3 < w2.heap.size := by omega
      clear hb2
      go_wp2_with fail
      exact bodyPost_ret (v := .tuple #[.agg #[.int .i64 tpl, .int .i64 tgt, .int .u8 2], .bool true]) (by simp [results, Tryz.results36, go_sem, *]) rfl ⟨rfl, by repeat (first | exact HBB.out _ (by assumption) | refine Below.setCell ?_ (by dsimp only; omega) _ | refine Below.drew ?_ | refine Below.alloc ?_ (by simp; omega) _)⟩
    · obtain rfl : EC = true := by rw [hev]; simp
      clear hev h5
      go_enter Tryz.func36, Tryz.ntmps36
      subst hds
      subst hes
      subst hxs
      go_wp2_with fail
      rw [HW0.out]
      refine (HF2.out _ hb0).mono ?_
      rintro e w1 ⟨rfl, hb1⟩
      have hc1 := HT0.out _ _ hb0 hb1
      have hlt1 := HLT.out _ hc1
      have l0 : w.heap.size < w1.heap.size := by omega
      have l2 : w.heap.size + 3 < w1.heap.size := by omega
      clear hb1
      go_wp2_with fail
      refine (HC.out _ hc1).mono ?_
      rintro e w2 ⟨rfl, hb2⟩
      have hc2 := HT0.out _ _ hc1 hb2
      have hlt2 := HLT.out _ hc2
      have l0' : w.heap.size < w2.heap.size := by omega
      have l2' : w.heap.size + 3 < w2.heap.size := by omega
      clear hb2
      go_wp2_with fail
      exact bodyPost_ret (v := .tuple #[.agg #[.int .i64 tpl, .int .i64 tgt, .int .u8 2], .bool true]) (by simp [results, Tryz.results36, go_sem, *]) rfl ⟨rfl, by repeat (first | exact HBB.out _ (by assumption) | refine Below.setCell ?_ (by dsimp only; omega) _ | refine Below.drew ?_ | refine Below.alloc ?_ (by simp; omega) _)⟩
    · obtain rfl : EC = false := by rw [hev]; simp [h5]
      clear hev h5
      go_enter Tryz.func36, Tryz.ntmps36
      subst hds
      subst hes
      subst hxs
      go_wp2_with fail
      rw [HW0.out]
      refine (HF2.out _ hb0).mono ?_
      rintro e w1 ⟨rfl, hb1⟩
      have hc1 := HT0.out _ _ hb0 hb1
      have hlt1 := HLT.out _ hc1
      have l0 : w.heap.size < w1.heap.size := by omega
      have l2 : w.heap.size + 3 < w1.heap.size := by omega
      clear hb1
      go_wp2_with fail
      refine (HC.out _ hc1).mono ?_
      rintro e w2 ⟨rfl, hb2⟩
      have hc2 := HT0.out _ _ hc1 hb2
      have hlt2 := HLT.out _ hc2
      have l0' : w.heap.size < w2.heap.size := by omega
      have l2' : w.heap.size + 3 < w2.heap.size := by omega
      clear hb2
      go_wp2_with fail
      exact bodyPost_ret (v := .tuple #[.agg #[.int .i64 tpl, .int .i64 tgt, .int .u8 1], .bool true]) (by simp [results, Tryz.results36, go_sem, *]) rfl ⟨rfl, by repeat (first | exact HBB.out _ (by assumption) | refine Below.setCell ?_ (by dsimp only; omega) _ | refine Below.drew ?_ | refine Below.alloc ?_ (by simp; omega) _)⟩


end Go.Proofs.YtdgakmpopgpijaaGreatDoor

/- What the reference's Update computes, said of lists alone: it is the sorted list of the updated links and of the new ones; covers says what belong says. -/
namespace Go.Proofs.YtdgakmpopgpijaaGreatDoor
open Go.RowKit

/-- The link of an event that is new. -/
def freshLk (z : Int) : List Lk := [⟨z, 0, 3⟩]
/-- A list of numbers without a number that stands at its head. -/
def skipI (t : Int) : List Int → List Int
  | [] => []
  | z :: r => if z = t then r else z :: r
def lowI (t : Int) (ids : List Int) : List Int := ids.takeWhile (fun z => decide (z < t))
def highI (t : Int) (ids : List Int) : List Int := ids.dropWhile (fun z => decide (z < t))
/-- The links after a change, the new events between them. -/
def updGo (b a : List Ev) : List Lk → List Int → List Lk
  | [], ids => ids.flatMap freshLk
  | x :: l, ids => (lowI x.tpl ids).flatMap freshLk ++ (updOne b a x ++ updGo b a l (skipI x.tpl (highI x.tpl ids)))

theorem low_high (t : Int) (ids : List Int) : lowI t ids ++ highI t ids = ids := List.takeWhile_append_dropWhile
theorem low_lt (t : Int) : ∀ (ids : List Int) (z : Int), z ∈ lowI t ids → z < t
  | [], z, h => by simp [lowI] at h
  | y :: l, z, h => by
    unfold lowI at h
    rw [List.takeWhile_cons] at h
    split at h
    · rename_i hy
      rcases List.mem_cons.1 h with rfl | h
      · simpa using hy
      · exact low_lt t l z h
    · simp at h
theorem high_ge (t : Int) : ∀ (ids : List Int), ids.Pairwise (· < ·) → ∀ z ∈ highI t ids, t ≤ z
  | [], _, z, h => by simp [highI] at h
  | y :: l, hp, z, h => by
    rw [List.pairwise_cons] at hp
    unfold highI at h
    rw [List.dropWhile_cons] at h
    split at h
    · exact high_ge t l hp.2 z h
    · rename_i hy
      simp at hy
      rcases List.mem_cons.1 h with rfl | h
      · exact hy
      · have := hp.1 z h
        omega
theorem high_asc (t : Int) (ids : List Int) (h : ids.Pairwise (· < ·)) : (highI t ids).Pairwise (· < ·) := by
  have := low_high t ids
  rw [← this] at h
  exact (List.pairwise_append.1 h).2.1
theorem low_asc (t : Int) (ids : List Int) (h : ids.Pairwise (· < ·)) : (lowI t ids).Pairwise (· < ·) := by
  have := low_high t ids
  rw [← this] at h
  exact (List.pairwise_append.1 h).1
theorem skip_mem (t : Int) (l : List Int) (h : l.Pairwise (· < ·)) (hg : ∀ z ∈ l, t ≤ z) (z : Int) : z ∈ skipI t l ↔ z ∈ l ∧ ¬ z = t := by
  cases l with
  | nil => simp [skipI]
  | cons y r =>
    rw [List.pairwise_cons] at h
    have hy := hg y (by simp)
    rw [show skipI t (y :: r) = if y = t then r else y :: r from rfl]
    split
    · rename_i he
      subst he
      constructor
      · intro hz
        have := h.1 z hz
        exact ⟨List.mem_cons_of_mem _ hz, by omega⟩
      · rintro ⟨hz, hn⟩
        rcases List.mem_cons.1 hz with rfl | hz
        · exact absurd rfl hn
        · exact hz
    · rename_i he
      constructor
      · intro hz
        refine ⟨hz, ?_⟩
        rcases List.mem_cons.1 hz with rfl | hz
        · exact he
        · have := h.1 z hz
          omega
      · exact fun hz => hz.1
theorem skip_asc (t : Int) (l : List Int) (h : l.Pairwise (· < ·)) : (skipI t l).Pairwise (· < ·) := by
  cases l with
  | nil => exact h
  | cons y r =>
    rw [show skipI t (y :: r) = if y = t then r else y :: r from rfl]
    split
    · exact (List.pairwise_cons.1 h).2
    · exact h
theorem fresh_mem (ids : List Int) (y : Lk) : y ∈ ids.flatMap freshLk ↔ ∃ z ∈ ids, y = ⟨z, 0, 3⟩ := by
  rw [List.mem_flatMap]
  constructor
  · rintro ⟨z, hz, hy⟩; exact ⟨z, hz, by simpa [freshLk] using hy⟩
  · rintro ⟨z, hz, hy⟩; exact ⟨z, hz, by simpa [freshLk] using hy⟩
theorem updOne_mem (b a : List Ev) (x y : Lk) : y ∈ updOne b a x ↔ (updLk x b a).2 = true ∧ y = (updLk x b a).1 := by
  unfold updOne
  split
  · rename_i h; simp [h]
  · rename_i h; simp [h]

theorem updGo_mem (b a : List Ev) (y : Lk) : ∀ (xs : List Lk) (ids : List Int), xs.Pairwise (fun x y => x.tpl < y.tpl) → ids.Pairwise (· < ·) →
    (y ∈ updGo b a xs ids ↔ (∃ x ∈ xs, (updLk x b a).2 = true ∧ y = (updLk x b a).1) ∨ (∃ z ∈ ids, (¬ ∃ x ∈ xs, x.tpl = z) ∧ y = ⟨z, 0, 3⟩))
  | [], ids, _, _ => by
    rw [updGo, fresh_mem]
    simp
  | x :: l, ids, hx, hi => by
    rw [List.pairwise_cons] at hx
    have hh := high_asc x.tpl ids hi
    have hge := high_ge x.tpl ids hi
    have ih := updGo_mem b a y l (skipI x.tpl (highI x.tpl ids)) hx.2 (skip_asc _ _ hh)
    have hm : ∀ z, z ∈ ids ↔ z ∈ lowI x.tpl ids ∨ z ∈ highI x.tpl ids := fun z => by
      rw [← List.mem_append, low_high]
    rw [updGo, List.mem_append, List.mem_append, ih, fresh_mem, updOne_mem]
    constructor
    · rintro (⟨z, hz, rfl⟩ | ⟨h1, h2⟩ | ⟨x', hx', h⟩ | ⟨z, hz, hn, rfl⟩)
      · refine .inr ⟨z, (hm z).2 (.inl hz), ?_, rfl⟩
        have hlt := low_lt x.tpl ids z hz
        rintro ⟨x', hx', he⟩
        rcases List.mem_cons.1 hx' with rfl | hx'
        · omega
        · have := hx.1 x' hx'
          omega
      · exact .inl ⟨x, by simp, h1, h2⟩
      · exact .inl ⟨x', by simp [hx'], h⟩
      · rw [skip_mem _ _ hh hge] at hz
        refine .inr ⟨z, (hm z).2 (.inr hz.1), ?_, rfl⟩
        rintro ⟨x', hx', he⟩
        rcases List.mem_cons.1 hx' with rfl | hx'
        · exact hz.2 he.symm
        · exact hn ⟨x', hx', he⟩
    · rintro (⟨x', hx', h⟩ | ⟨z, hz, hn, rfl⟩)
      · rcases List.mem_cons.1 hx' with rfl | hx'
        · exact .inr (.inl h)
        · exact .inr (.inr (.inl ⟨x', hx', h⟩))
      · rcases (hm z).1 hz with hz | hz
        · exact .inl ⟨z, hz, rfl⟩
        · refine .inr (.inr (.inr ⟨z, ?_, ?_, rfl⟩))
          · rw [skip_mem _ _ hh hge]
            exact ⟨hz, fun h => hn ⟨x, by simp, h.symm⟩⟩
          · rintro ⟨x', hx', he⟩
            exact hn ⟨x', by simp [hx'], he⟩
theorem updGo_tpl (b a : List Ev) (xs : List Lk) (ids : List Int) (hx : xs.Pairwise (fun x y => x.tpl < y.tpl)) (hi : ids.Pairwise (· < ·)) (y : Lk) (hy : y ∈ updGo b a xs ids) : (∃ x ∈ xs, y.tpl = x.tpl) ∨ (∃ z ∈ ids, y.tpl = z) := by
  rcases (updGo_mem b a y xs ids hx hi).1 hy with ⟨x, h1, _, rfl⟩ | ⟨z, h1, _, rfl⟩
  · exact .inl ⟨x, h1, (updLk_tpl x b a).1⟩
  · exact .inr ⟨z, h1, rfl⟩
theorem updGo_asc (b a : List Ev) : ∀ (xs : List Lk) (ids : List Int), xs.Pairwise (fun x y => x.tpl < y.tpl) → ids.Pairwise (· < ·) → (updGo b a xs ids).Pairwise (fun x y => x.tpl < y.tpl)
  | [], ids, _, hi => by
    rw [updGo, List.pairwise_flatMap]
    refine ⟨fun z _ => by simp [freshLk], hi.imp fun {p q} hpq x hx y hy => ?_⟩
    simp [freshLk] at hx hy
    subst hx
    subst hy
    exact hpq
  | x :: l, ids, hx, hi => by
    have hx0 := hx
    rw [List.pairwise_cons] at hx
    have hh := high_asc x.tpl ids hi
    have hge := high_ge x.tpl ids hi
    have hsk := skip_asc x.tpl _ hh
    have ih := updGo_asc b a l (skipI x.tpl (highI x.tpl ids)) hx.2 hsk
    have hrest : ∀ y ∈ updGo b a l (skipI x.tpl (highI x.tpl ids)), x.tpl < y.tpl := fun y hy => by
      rcases updGo_tpl b a l _ hx.2 hsk y hy with ⟨x', h1, h2⟩ | ⟨z, h1, h2⟩
      · rw [h2]; exact hx.1 x' h1
      · rw [skip_mem _ _ hh hge] at h1
        have := hge z h1.1
        rw [h2]
        omega
    have hone : ∀ y ∈ updOne b a x, y.tpl = x.tpl := fun y hy => by
      rw [((updOne_mem b a x y).1 hy).2]
      exact (updLk_tpl x b a).1
    rw [updGo, List.pairwise_append]
    refine ⟨?_, ?_, ?_⟩
    · rw [List.pairwise_flatMap]
      refine ⟨fun z _ => by simp [freshLk], (low_asc x.tpl ids hi).imp fun {p q} hpq u hu v hv => ?_⟩
      simp [freshLk] at hu hv
      subst hu
      subst hv
      exact hpq
    · rw [List.pairwise_append]
      refine ⟨?_, ih, fun u hu v hv => ?_⟩
      · unfold updOne; split <;> simp
      · rw [hone u hu]; exact hrest v hv
    · intro u hu v hv
      obtain ⟨z, hz, rfl⟩ := (fresh_mem _ _).1 hu
      have hlt := low_lt x.tpl ids z hz
      rcases List.mem_append.1 hv with hv | hv
      · rw [hone v hv]; exact hlt
      · have := hrest v hv
        simp only
        omega

theorem lk_unique : ∀ {ys zs : List Lk}, ys.Perm zs → ys.Pairwise (fun x y => x.tpl ≤ y.tpl) → zs.Pairwise (fun x y => x.tpl < y.tpl) → ys = zs
  | [], zs, hp, _, _ => (List.nil_perm.1 hp).symm
  | y :: ys, [], hp, _, _ => absurd hp.length_eq (by simp)
  | y :: ys, z :: zs, hp, h1, h2 => by
    rw [List.pairwise_cons] at h1 h2
    have hy : y ∈ z :: zs := hp.subset (by simp)
    have hz : z ∈ y :: ys := hp.symm.subset (by simp)
    have e : y = z := by
      rcases List.mem_cons.1 hy with h | h
      · exact h
      · rcases List.mem_cons.1 hz with h' | h'
        · exact h'.symm
        · have a := h2.1 y h
          have b := h1.1 z h'
          omega
    subst e
    rw [lk_unique (List.perm_cons _ |>.1 hp) h1.2 h2.2]

/-- The two Updates give the same links; ids: the IDs of the events after the change, ascending. -/
theorem updates_same {xs ys : List Lk} {b : List Ev} {d' : Doc} {ids : List Int} (hf : formB xs = true) (hd : docErr d' = 0) (hi : ids.Pairwise (· < ·)) (hm : ∀ z, z ∈ ids ↔ z ∈ idsOf d'.evs)
    (hp : ys.Perm (updAll xs b d'.evs)) (hs : ys.Pairwise (fun x y => x.tpl ≤ y.tpl)) : ys = updGo b d'.evs xs ids := by
  have hx := (form_ok hf).2.1
  have asc := updGo_asc b d'.evs xs ids hx hi
  have nd1 : (updAll xs b d'.evs).Nodup := (updAll_tpls hx hd).imp fun h he => h (by rw [he])
  have nd2 : (updGo b d'.evs xs ids).Nodup := asc.imp fun h he => by rw [he] at h; omega
  have mem : ∀ y, y ∈ updAll xs b d'.evs ↔ y ∈ updGo b d'.evs xs ids := fun y => by
    rw [updAll_mem, updGo_mem b d'.evs y xs ids hx hi]
    constructor
    · rintro (h | ⟨e, he, h1, h2⟩)
      · exact .inl h
      · exact .inr ⟨e.id, (hm _).2 (by unfold idsOf; exact List.mem_map_of_mem he), h1, h2⟩
    · rintro (h | ⟨z, hz, h1, h2⟩)
      · exact .inl h
      · have := (hm z).1 hz
        unfold idsOf at this
        obtain ⟨e, he, rfl⟩ := List.mem_map.1 this
        exact .inr ⟨e, he, h1, h2⟩
  exact lk_unique (hp.trans ((List.perm_ext_iff_of_nodup nd1 nd2).2 mem)) hs asc

/-! ### covers -/
theorem perm_of_sub : ∀ (l1 l2 : List Int), l1.Nodup → (∀ z ∈ l1, z ∈ l2) → l2.length ≤ l1.length → l1.Perm l2
  | [], l2, _, _, hl => by
    have : l2 = [] := List.eq_nil_of_length_eq_zero (by simpa using hl)
    rw [this]
  | x :: l1, l2, hn, hs, hl => by
    rw [List.nodup_cons] at hn
    have hx : x ∈ l2 := hs x (by simp)
    have hp := List.perm_cons_erase hx
    have hl2 := hp.length_eq
    simp only [List.length_cons] at hl hl2
    refine (List.Perm.cons x (perm_of_sub l1 (l2.erase x) hn.2 (fun z hz => ?_) (by omega))).trans hp.symm
    have hzx : ¬ z = x := fun h => hn.1 (h ▸ hz)
    rcases List.mem_cons.1 (hp.subset (hs z (by simp [hz]))) with h | h
    · exact absurd h hzx
    · exact h
theorem covGo_iff (evs : List Ev) : ∀ (xs : List Lk) (n : Nat), covGo evs xs n = true ↔ (∀ z ∈ ownIds xs, z ∈ idsOf evs) ∧ n + (ownIds xs).length = evs.length
  | [], n => by simp [covGo, ownIds]
  | x :: l, n => by
    have hmem : (∃ e ∈ evs, e.id = x.tpl) ↔ x.tpl ∈ idsOf evs := by
      unfold idsOf
      rw [List.mem_map]
    unfold covGo
    by_cases hs : x.st = 4
    · have ho : ownIds (x :: l) = ownIds l := by unfold ownIds ownId; simp [hs]
      rw [if_pos hs, covGo_iff evs l n, ho]
    · have ho : ownIds (x :: l) = x.tpl :: ownIds l := by unfold ownIds; rw [List.flatMap_cons]; unfold ownId; rw [if_neg hs]; rfl
      rw [if_neg hs, ho]
      by_cases hN : posOf (hasId x.tpl) evs < 0
      · rw [if_pos hN]
        constructor
        · intro h; cases h
        · rintro ⟨h, _⟩
          have := (has_iff evs x.tpl).2 (hmem.2 (h x.tpl (by simp)))
          omega
      · rw [if_neg hN, covGo_iff evs l (n + 1)]
        have hin := hmem.1 ((has_iff evs x.tpl).1 (by omega))
        simp only [List.mem_cons, forall_eq_or_imp, List.length_cons]
        constructor
        · rintro ⟨h1, h2⟩; exact ⟨⟨hin, h1⟩, by omega⟩
        · rintro ⟨⟨_, h1⟩, h2⟩; exact ⟨h1, by omega⟩
theorem covers_belong {xs : List Lk} {d : Doc} (hf : formB xs = true) (hd : docErr d = 0) : covGo d.evs xs 0 = belongB xs d.evs := by
  have asc := ownIds_asc (form_ok hf).2.1
  have nd2 : (ownIds xs).Nodup := asc.imp fun h => by omega
  have hs : (sortI (idsOf d.evs)).Pairwise (· ≤ ·) := by
    have := List.pairwise_mergeSort (le := fun x y : Int => decide (x ≤ y)) (fun a b c h1 h2 => by simp at *; omega) (fun a b => by simp; omega) (idsOf d.evs)
    exact this.imp fun h => by simpa using h
  have hperm : (sortI (idsOf d.evs)).Perm (idsOf d.evs) := List.mergeSort_perm _ _
  have hlen : (idsOf d.evs).length = d.evs.length := by simp [idsOf]
  unfold belongB
  rw [Bool.eq_iff_iff, covGo_iff, decide_eq_true_iff]
  constructor
  · rintro ⟨h1, h2⟩
    have hp := perm_of_sub (ownIds xs) (idsOf d.evs) nd2 h1 (by omega)
    exact (int_unique (hperm.trans hp.symm) hs asc).symm
  · intro h
    have hp : (ownIds xs).Perm (idsOf d.evs) := by rw [h]; exact hperm
    exact ⟨fun z hz => hp.subset hz, by rw [Nat.zero_add, hp.length_eq, hlen]⟩
theorem belong_has {xs : List Lk} {evs : List Ev} (h : belongB xs evs = true) (x : Lk) (hx : x ∈ xs) (hs : ¬ x.st = 4) : 0 ≤ posOf (hasId x.tpl) evs := by
  unfold belongB at h
  rw [decide_eq_true_iff] at h
  have h1 : x.tpl ∈ ownIds xs := (ownIds_mem xs x.tpl).2 ⟨x, hx, hs, rfl⟩
  rw [h] at h1
  have h2 : x.tpl ∈ idsOf evs := (List.mergeSort_perm _ _).subset h1
  unfold idsOf at h2
  obtain ⟨e, he, he2⟩ := List.mem_map.1 h2
  exact (has_iff evs x.tpl).2 ⟨e, he, he2⟩

end Go.Proofs.YtdgakmpopgpijaaGreatDoor

/- The contract of the reference's Update: the links after the template has changed. -/
namespace Go.Proofs.YtdgakmpopgpijaaGreatDoor
open Go.RowKit

theorem IntsV.cases {w : World} {v : Value} {zs : List Int} (h : IntsV w v zs) : (zs = [] ∧ ∃ a c, v = .slice a 0 c) ∨ (∃ z r b off cap A, zs = z :: r ∧ v = .slice (some ⟨b, off, none⟩) (r.length + 1) cap ∧ b < w.heap.size ∧ r.length + 1 ≤ cap ∧ w.cell? ⟨b, off, none⟩ = some (.int .i64 z) ∧ (if cap = 1 then some (⟨b, off, none⟩ : Addr) else some ⟨b, off + 1, none⟩) = some A ∧ IntsV w (.slice (some A) r.length (cap - 1)) r) := by
  rcases h with ⟨rfl, rfl⟩ | ⟨b, off, cap, rfl, h2, h3, h5, h4⟩
  · exact .inl ⟨rfl, none, 0, rfl⟩
  · cases zs with
    | nil => exact .inl ⟨rfl, _, cap, rfl⟩
    | cons z r =>
      simp only [List.length_cons] at h3
      have hc := h4.cells
      have h0 := hc 0 (.int .i64 z) rfl
      rw [Nat.add_zero] at h0
      by_cases hq : cap = 1
      · refine .inr ⟨z, r, b, off, cap, ⟨b, off, none⟩, rfl, rfl, h2, h3, h0, by simp [hq], .inr ⟨b, off, cap - 1, rfl, h2, by omega, by omega, ?_⟩⟩
        exact .inl (List.eq_nil_of_length_eq_zero (by omega))
      · refine .inr ⟨z, r, b, off, cap, ⟨b, off + 1, none⟩, rfl, rfl, h2, h3, h0, by simp [hq], .inr ⟨b, off + 1, cap - 1, rfl, h2, by omega, by omega, ?_⟩⟩
        refine .inr ⟨b, off + 1, rfl, h2, fun i x hx => ⟨fun j u hu => ?_, trivial⟩⟩
        match j, hu with
        | 0, hu =>
          simp at hu
          subst hu
          have := hc (i + 1) (.int .i64 x) (by simpa using hx)
          rw [show off + 1 + i * 1 + 0 = off + (i + 1) by omega]
          exact this
theorem updGo_len (b a : List Ev) : ∀ (xs : List Lk) (ids : List Int), (updGo b a xs ids).length ≤ xs.length + ids.length
  | [], ids => by
    rw [updGo]
    have : (ids.flatMap freshLk).length = ids.length := by
      induction ids with
      | nil => rfl
      | cons z l ih => rw [List.flatMap_cons, List.length_append, ih]; simp [freshLk]; omega
    simp [this]
  | x :: l, ids => by
    have ih := updGo_len b a l (skipI x.tpl (highI x.tpl ids))
    have h1 := congrArg List.length (low_high x.tpl ids)
    have h2 : (skipI x.tpl (highI x.tpl ids)).length ≤ (highI x.tpl ids).length := by
      cases highI x.tpl ids with
      | nil => exact Nat.le_refl _
      | cons y r =>
        rw [show skipI x.tpl (y :: r) = if y = x.tpl then r else y :: r from rfl]
        split <;> simp
    have h3 := updOne_one b a x
    have h4 : ∀ zs : List Int, (zs.flatMap freshLk).length = zs.length := fun zs => by
      induction zs with
      | nil => rfl
      | cons z l ih => rw [List.flatMap_cons, List.length_append, ih]; simp [freshLk]; omega
    rw [updGo, List.length_append, List.length_append, h4]
    simp only [List.length_append, List.length_cons] at h1 ⊢
    omega
theorem freshLk_one (z : Int) : (freshLk z).length ≤ 1 := Nat.le_refl _
def lenV : Value → Nat
  | .slice _ n _ => n
  | _ => 0
/-- The box of a link stands. -/
def XB (g : Nat) (tpl tgt st : Int) (w : World) : Prop := g < w.heap.size ∧ w.cell? ⟨g, 0, none⟩ = some (.int .i64 tpl) ∧ w.cell? ⟨g, 1, none⟩ = some (.int .i64 tgt) ∧ w.cell? ⟨g, 2, none⟩ = some (.int .u8 st)
theorem XB.grown {g : Nat} {tpl tgt st : Int} {w w' : World} {row : Option Nat} (h : XB g tpl tgt st w) (hg : w.grownBy w' row) (hne : some g ≠ row) : XB g tpl tgt st w' :=
  ⟨Nat.lt_of_lt_of_le h.1 hg.size, (hg.cell_far ⟨g, 0, none⟩ h.1 hne).trans h.2.1, (hg.cell_far ⟨g, 1, none⟩ h.1 hne).trans h.2.2.1, (hg.cell_far ⟨g, 2, none⟩ h.1 hne).trans h.2.2.2⟩
theorem XB.alloc {g : Nat} {tpl tgt st : Int} {w : World} (h : XB g tpl tgt st w) (o : Obj) : XB g tpl tgt st (w.alloc o) := h.grown (World.grownBy_alloc w o none) (by simp)
theorem XB.new (w : World) (tpl tgt st : Int) : XB w.heap.size tpl tgt st (w.alloc (.cells #[.int .i64 tpl, .int .i64 tgt, .int .u8 st] 49)) :=
  ⟨by simp, box_cell w _ 49 0 _ rfl _ (Below.refl _ _), box_cell w _ 49 1 _ rfl _ (Below.refl _ _), box_cell w _ 49 2 _ rfl _ (Below.refl _ _)⟩
theorem low_cons {t z : Int} {r : List Int} (h : z < t) : lowI t (z :: r) = z :: lowI t r ∧ highI t (z :: r) = highI t r := by
  unfold lowI highI
  rw [List.takeWhile_cons, List.dropWhile_cons]
  simp [h]
theorem low_stop {t z : Int} {r : List Int} (h : ¬ z < t) : lowI t (z :: r) = [] ∧ highI t (z :: r) = z :: r := by
  unfold lowI highI
  rw [List.takeWhile_cons, List.dropWhile_cons]
  simp [h]
theorem putL_mem (id y : Int) : ∀ zs, y ∈ putL zs id ↔ y = id ∨ y ∈ zs
  | [] => by simp [putL]
  | z :: l => by
    have ih := putL_mem id y l
    unfold putL
    split
    · rw [List.mem_cons, ih, List.mem_cons]
      constructor
      · rintro (h | h | h)
        · exact .inr (.inl h)
        · exact .inl h
        · exact .inr (.inr h)
      · rintro (h | h | h)
        · exact .inr (.inl h)
        · exact .inl h
        · exact .inr (.inr h)
    · split
      · rename_i h
        subst h
        simp
      · simp

theorem putL_asc (id : Int) : ∀ zs : List Int, zs.Pairwise (· < ·) → (putL zs id).Pairwise (· < ·)
  | [], _ => by simp [putL]
  | z :: l, h => by
    rw [List.pairwise_cons] at h
    unfold putL
    split
    · rename_i hz
      rw [List.pairwise_cons]
      refine ⟨fun y hy => ?_, putL_asc id l h.2⟩
      rcases (putL_mem id y l).1 hy with rfl | hy
      · exact hz
      · exact h.1 y hy
    · split
      · rw [List.pairwise_cons]; exact h
      · rename_i h1 h2
        rw [List.pairwise_cons, List.pairwise_cons]
        refine ⟨fun y hy => ?_, h⟩
        rcases List.mem_cons.1 hy with rfl | hy
        · omega
        · have := h.1 y hy
          omega

theorem insAll_mem (y : Int) : ∀ (evs : List Ev) (zs : List Int), y ∈ insAll zs evs ↔ y ∈ zs ∨ y ∈ idsOf evs
  | [], zs => by simp [insAll, idsOf]
  | x :: l, zs => by
    rw [insAll, insAll_mem y l, putL_mem]
    simp only [idsOf, List.map_cons, List.mem_cons]
    constructor
    · rintro ((h | h) | h)
      · exact .inr (.inl h)
      · exact .inl h
      · exact .inr (.inr h)
    · rintro (h | h | h)
      · exact .inl (.inr h)
      · exact .inl (.inl h)
      · exact .inr h

theorem insAll_asc : ∀ (evs : List Ev) (zs : List Int), zs.Pairwise (· < ·) → (insAll zs evs).Pairwise (· < ·)
  | [], zs, h => h
  | x :: l, zs, h => insAll_asc l _ (putL_asc x.id zs h)
theorem insAll_ids (evs : List Ev) : (insAll (insAll [] evs) evs).Pairwise (· < ·) ∧ ∀ z, z ∈ insAll (insAll [] evs) evs ↔ z ∈ idsOf evs :=
  ⟨insAll_asc _ _ (insAll_asc _ _ .nil), fun z => by rw [insAll_mem, insAll_mem]; simp⟩
set_option maxRecDepth 100000 in
set_option maxHeartbeats 6400000 in
theorem refUpdate_bad (a : Option Addr) (cap : Nat) (xs : List Lk) (d d' : Doc) (w : World) (hE : Env w) (hx : LksAt w a xs) (hfx : ∀ x ∈ xs, x.fits) (hlx : xs.length ≤ 4000000) (hcap : xs.length ≤ cap) (hd : d.lies w) (hd' : d'.lies w) (hf : d.fits) (hf' : d'.fits) (hbad : formB xs = false ∨ (formB xs = true ∧ ((docErr d != 0) = true ∨ (docErr d = 0 ∧ ((docErr d' != 0) = true ∨ (docErr d' = 0 ∧ belongB xs d.evs = false)))))) (R : List Lk) :
    Calls Tryz.prog 9 #[.slice a xs.length cap, .agg d.enc.toArray, .agg d'.enc.toArray] w (SetPost (updErr xs d d') R w) := by
  have hIF := fun (w1 : World) (h : Below w.heap.size w w1) => formed_calls a cap xs w1 (hx.later h) hfx hlx hcap
  have hD1 := fun (w1 : World) (h : Below w.heap.size w w1) => refDocCheck_calls d w1 (hE.below h (Nat.le_refl _)) (Doc.later hd h) hf
  have hD2 := fun (w1 : World) (h : Below w.heap.size w w1) => refDocCheck_calls d' w1 (hE.below h (Nat.le_refl _)) (Doc.later hd' h) hf'
  have hCV := fun (w1 : World) (h : Below w.heap.size w w1) => covers_calls a cap xs d w1 (hx.later h) hlx (hd.2.1.later h) hf.2.2.2.2.2.2.2.2.1
  have hcb := fun h1 h2 => covers_belong (xs := xs) (d := d) h1 h2
  have hG : (formB xs = false → updErr xs d d' = 4) ∧ (formB xs = true → (docErr d != 0) = true → updErr xs d d' = docErr d) ∧ (formB xs = true → docErr d = 0 → (docErr d' != 0) = true → updErr xs d d' = docErr d') ∧ (formB xs = true → docErr d = 0 → docErr d' = 0 → belongB xs d.evs = false → updErr xs d d' = 1) := by
    unfold updErr
    refine ⟨fun h => by rw [if_pos h], fun h h2 => by rw [if_neg (by rw [h]; decide), if_pos h2], fun h h2 h3 => by rw [if_neg (by rw [h]; decide), if_neg (by rw [h2]; decide), if_pos h3], fun h h2 h3 h4 => by rw [if_neg (by rw [h]; decide), if_neg (by rw [h2]; decide), if_neg (by rw [h3]; decide), if_pos h4]⟩
  have HQ := Lib.hid (fun w' (h0 : ¬ updErr xs d d' = 0) (hb : Below w.heap.size w w') => SetPost.bad (E := updErr xs d d') (ys := R) h0 hb)
  generalize SetPost (updErr xs d d') R w = Q at *
  generalize updErr xs d d' = G at *
  generalize covGo d.evs xs 0 = CV at *
  generalize belongB xs d.evs = BB at *
  generalize formB xs = FB at *
  generalize docErr d = E1 at *
  generalize docErr d' = E2 at *
  have HIF := Lib.hid hIF; have HD1 := Lib.hid hD1; have HD2 := Lib.hid hD2; have HCV := Lib.hid hCV
  have HG := Lib.hid hG
  have HCB := Lib.hid hcb
  clear hIF hD1 hD2 hCV hd hd' hf hf' hfx hE hx hG hcb
  obtain ⟨title, lang, rate, drop, last, ra, rc, regs, ea, ec, evs, ca, cc, cms⟩ := d
  obtain ⟨title', lang', rate', drop', last', ra', rc', regs', ea', ec', evs', ca', cc', cms'⟩ := d'
  simp only [Doc.enc] at HD1 HD2 HCV ⊢
  generalize hds : #[Value.string title, .string lang, .int .u8 rate, .bool drop, .int .i64 last, .slice ra regs.length rc, .slice ea evs.length ec, .slice ca cms.length cc] = ds at *
  generalize hes : #[Value.string title', .string lang', .int .u8 rate', .bool drop', .int .i64 last', .slice ra' regs'.length rc', .slice ea' evs'.length ec', .slice ca' cms'.length cc'] = es at *
  have f0 := box2_fst w ds es 28 28 0 (.string title) (by rw [← hds]; rfl)
  have f1 := box2_fst w ds es 28 28 1 (.string lang) (by rw [← hds]; rfl)
  have f2 := box2_fst w ds es 28 28 2 (.int .u8 rate) (by rw [← hds]; rfl)
  have f3 := box2_fst w ds es 28 28 3 (.bool drop) (by rw [← hds]; rfl)
  have f4 := box2_fst w ds es 28 28 4 (.int .i64 last) (by rw [← hds]; rfl)
  have f5 := box2_fst w ds es 28 28 5 (.slice ra regs.length rc) (by rw [← hds]; rfl)
  have f6 := box2_fst w ds es 28 28 6 (.slice ea evs.length ec) (by rw [← hds]; rfl)
  have f7 := box2_fst w ds es 28 28 7 (.slice ca cms.length cc) (by rw [← hds]; rfl)
  have g0 := box2_snd w ds es 28 28 0 (.string title') (by rw [← hes]; rfl)
  have g1 := box2_snd w ds es 28 28 1 (.string lang') (by rw [← hes]; rfl)
  have g2 := box2_snd w ds es 28 28 2 (.int .u8 rate') (by rw [← hes]; rfl)
  have g3 := box2_snd w ds es 28 28 3 (.bool drop') (by rw [← hes]; rfl)
  have g4 := box2_snd w ds es 28 28 4 (.int .i64 last') (by rw [← hes]; rfl)
  have g5 := box2_snd w ds es 28 28 5 (.slice ra' regs'.length rc') (by rw [← hes]; rfl)
  have g6 := box2_snd w ds es 28 28 6 (.slice ea' evs'.length ec') (by rw [← hes]; rfl)
  have g7 := box2_snd w ds es 28 28 7 (.slice ca' cms'.length cc') (by rw [← hes]; rfl)
  have HB := Lib.hid (fun (w1 : World) (h : Below (w.heap.size + 2) ((w.alloc (.cells ds 28)).alloc (.cells es 28)) w1) => box2_below h)
  have hb0 : Below (w.heap.size + 2) ((w.alloc (.cells ds 28)).alloc (.cells es 28)) ((w.alloc (.cells ds 28)).alloc (.cells es 28)) := Below.refl _ _
  have hsz : ((w.alloc (.cells ds 28)).alloc (.cells es 28)).heap.size = w.heap.size + 2 := by simp
  generalize hW0 : (w.alloc (.cells ds 28)).alloc (.cells es 28) = W0 at *
  have HW0 := Lib.hid hW0
  have HLT := Lib.hid (fun (w1 : World) (h : Below (w.heap.size + 2) W0 w1) => (show w.heap.size + 2 ≤ w1.heap.size by have := h.size; rw [hsz] at this; exact this))
  have HT0 := Lib.hid (fun (w2 w3 : World) (h : Below (w.heap.size + 2) W0 w2) (h3 : Below w2.heap.size w2 w3) => h.trans (h3.mono (HLT.out _ h)))
  clear hW0 hsz
  rcases hbad with rfl | ⟨rfl, h2 | ⟨rfl, h3 | ⟨rfl, rfl⟩⟩⟩
  · obtain rfl := HG.out.1 rfl
    go_enter Tryz.func9, Tryz.ntmps9
    subst hds
    subst hes
    go_wp2_with fail
    rw [HW0.out]
    refine (HIF.out _ (HB.out _ hb0)).mono ?_
    rintro e w1 ⟨rfl, hb1⟩
    have hc1 := HT0.out _ _ hb0 hb1
    clear hb1
    go_wp2_with fail
    exact HQ.out _ (by decide) (HB.out _ hc1)
  · obtain rfl := HG.out.2.1 rfl h2
    have hne : ¬ G = 0 := by simpa using h2
    go_enter Tryz.func9, Tryz.ntmps9
    subst hds
    subst hes
    go_wp2_with fail
    rw [HW0.out]
    refine (HIF.out _ (HB.out _ hb0)).mono ?_
    rintro e w1 ⟨rfl, hb1⟩
    have hc1 := HT0.out _ _ hb0 hb1
    clear hb1
    go_wp2_with fail
    refine (HD1.out _ (HB.out _ hc1)).mono ?_
    rintro e w2 ⟨rfl, hb2⟩
    have hc2 := HT0.out _ _ hc1 hb2
    clear hb2
    go_wp2_with fail
    exact HQ.out _ hne (HB.out _ hc2)
  · obtain rfl := HG.out.2.2.1 rfl rfl h3
    have hne : ¬ G = 0 := by simpa using h3
    go_enter Tryz.func9, Tryz.ntmps9
    subst hds
    subst hes
    go_wp2_with fail
    rw [HW0.out]
    refine (HIF.out _ (HB.out _ hb0)).mono ?_
    rintro e w1 ⟨rfl, hb1⟩
    have hc1 := HT0.out _ _ hb0 hb1
    clear hb1
    go_wp2_with fail
    refine (HD1.out _ (HB.out _ hc1)).mono ?_
    rintro e w2 ⟨rfl, hb2⟩
    have hc2 := HT0.out _ _ hc1 hb2
    clear hb2
    go_wp2_with fail
    refine (HD2.out _ (HB.out _ hc2)).mono ?_
    rintro e w3 ⟨rfl, hb3⟩
    have hc3 := HT0.out _ _ hc2 hb3
    clear hb3
    go_wp2_with fail
    exact HQ.out _ hne (HB.out _ hc3)
  · obtain rfl := HG.out.2.2.2 rfl rfl rfl rfl
    obtain rfl : CV = false := HCB.out rfl rfl
    go_enter Tryz.func9, Tryz.ntmps9
    subst hds
    subst hes
    go_wp2_with fail
    rw [HW0.out]
    refine (HIF.out _ (HB.out _ hb0)).mono ?_
    rintro e w1 ⟨rfl, hb1⟩
    have hc1 := HT0.out _ _ hb0 hb1
    clear hb1
    go_wp2_with fail
    refine (HD1.out _ (HB.out _ hc1)).mono ?_
    rintro e w2 ⟨rfl, hb2⟩
    have hc2 := HT0.out _ _ hc1 hb2
    clear hb2
    go_wp2_with fail
    refine (HD2.out _ (HB.out _ hc2)).mono ?_
    rintro e w3 ⟨rfl, hb3⟩
    have hc3 := HT0.out _ _ hc2 hb3
    clear hb3
    go_wp2_with fail
    refine (HCV.out _ (HB.out _ hc3)).mono ?_
    rintro e w4 ⟨rfl, hb4⟩
    have hc4 := HT0.out _ _ hc3 hb4
    clear hb4
    go_wp2_with fail
    exact HQ.out _ (by decide) (HB.out _ hc4)

set_option maxRecDepth 100000 in
set_option maxHeartbeats 6400000 in
theorem refUpdate_good (a : Option Addr) (cap : Nat) (xs : List Lk) (d d' : Doc) (w : World) (hE : Env w) (hx : LksAt w a xs) (hfx : ∀ x ∈ xs, x.fits) (hlx : xs.length ≤ 4000000) (hcap : xs.length ≤ cap) (hd : d.lies w) (hd' : d'.lies w) (hf : d.fits) (hf' : d'.fits) (h1 : formB xs = true) (h2 : docErr d = 0) (h3 : docErr d' = 0) (h4 : belongB xs d.evs = true) :
    Calls Tryz.prog 9 #[.slice a xs.length cap, .agg d.enc.toArray, .agg d'.enc.toArray] w (SetPost 0 (updGo d.evs d'.evs xs (insAll (insAll [] d'.evs) d'.evs)) w) := by
  have hIF := fun (w1 : World) (h : Below w.heap.size w w1) => formed_calls a cap xs w1 (hx.later h) hfx hlx hcap
  have hD1 := fun (w1 : World) (h : Below w.heap.size w w1) => refDocCheck_calls d w1 (hE.below h (Nat.le_refl _)) (Doc.later hd h) hf
  have hD2 := fun (w1 : World) (h : Below w.heap.size w w1) => refDocCheck_calls d' w1 (hE.below h (Nat.le_refl _)) (Doc.later hd' h) hf'
  have hCV := fun (w1 : World) (h : Below w.heap.size w w1) => covers_calls a cap xs d w1 (hx.later h) hlx (hd.2.1.later h) hf.2.2.2.2.2.2.2.2.1
  have hEV := fun (w1 : World) (h : Below w.heap.size w w1) => events_calls d' d' w1 (hd'.2.1.later h) (hd'.2.1.later h) hf'.2.2.2.2.2.2.2.2.1 hf'.2.2.2.2.2.2.2.2.1
  have hNX := fun (x : Lk) (w1 : World) (h : Below w.heap.size w w1) (hx : x ∈ xs) => next_calls x d d' w1 (hd.2.1.later h) (hd'.2.1.later h) hf.2.2.2.2.2.2.2.2.1 hf'.2.2.2.2.2.2.2.2.1 hf.2.2.2.2.2.2.2.1 hf'.2.2.2.2.2.2.2.1 (fun hs => belong_has h4 x hx (by omega))
  have HX := Lib.hid hx
  rw [covers_belong h1 h2, h4] at hCV
  rw [h1] at hIF
  rw [h2] at hD1
  rw [h3] at hD2
  have HZL := Lib.hid (show (insAll (insAll [] d'.evs) d'.evs).length ≤ 8000000 by have h1 := insAll_len d'.evs (insAll [] d'.evs); have h2 := insAll_len d'.evs []; have := hf'.2.2.2.2.2.2.2.2.1; simp at h2; omega)
  have hRL : (updGo d.evs d'.evs xs (insAll (insAll [] d'.evs) d'.evs)).length ≤ 12000000 := by
    have := updGo_len d.evs d'.evs xs (insAll (insAll [] d'.evs) d'.evs)
    have := HZL.out
    omega
  have HIF := Lib.hid hIF; have HD1 := Lib.hid hD1; have HD2 := Lib.hid hD2; have HCV := Lib.hid hCV; have HEV := Lib.hid hEV; have HNX := Lib.hid hNX
  clear hIF hD1 hD2 hCV hEV hNX hd hd' hf hf' hfx hE hx h1 h2 h3 h4 HZL
  obtain ⟨title, lang, rate, drop, last, ra, rc, regs, ea, ec, evs, ca, cc, cms⟩ := d
  obtain ⟨title', lang', rate', drop', last', ra', rc', regs', ea', ec', evs', ca', cc', cms'⟩ := d'
  simp only at HEV HNX hRL ⊢
  simp only [Doc.enc] at HD1 HD2 HCV HEV HNX ⊢
  generalize hds : #[Value.string title, .string lang, .int .u8 rate, .bool drop, .int .i64 last, .slice ra regs.length rc, .slice ea evs.length ec, .slice ca cms.length cc] = ds at *
  generalize hes : #[Value.string title', .string lang', .int .u8 rate', .bool drop', .int .i64 last', .slice ra' regs'.length rc', .slice ea' evs'.length ec', .slice ca' cms'.length cc'] = es at *
  have f0 := box2_fst w ds es 28 28 0 (.string title) (by rw [← hds]; rfl)
  have f1 := box2_fst w ds es 28 28 1 (.string lang) (by rw [← hds]; rfl)
  have f2 := box2_fst w ds es 28 28 2 (.int .u8 rate) (by rw [← hds]; rfl)
  have f3 := box2_fst w ds es 28 28 3 (.bool drop) (by rw [← hds]; rfl)
  have f4 := box2_fst w ds es 28 28 4 (.int .i64 last) (by rw [← hds]; rfl)
  have f5 := box2_fst w ds es 28 28 5 (.slice ra regs.length rc) (by rw [← hds]; rfl)
  have f6 := box2_fst w ds es 28 28 6 (.slice ea evs.length ec) (by rw [← hds]; rfl)
  have f7 := box2_fst w ds es 28 28 7 (.slice ca cms.length cc) (by rw [← hds]; rfl)
  have g0 := box2_snd w ds es 28 28 0 (.string title') (by rw [← hes]; rfl)
  have g1 := box2_snd w ds es 28 28 1 (.string lang') (by rw [← hes]; rfl)
  have g2 := box2_snd w ds es 28 28 2 (.int .u8 rate') (by rw [← hes]; rfl)
  have g3 := box2_snd w ds es 28 28 3 (.bool drop') (by rw [← hes]; rfl)
  have g4 := box2_snd w ds es 28 28 4 (.int .i64 last') (by rw [← hes]; rfl)
  have g5 := box2_snd w ds es 28 28 5 (.slice ra' regs'.length rc') (by rw [← hes]; rfl)
  have g6 := box2_snd w ds es 28 28 6 (.slice ea' evs'.length ec') (by rw [← hes]; rfl)
  have g7 := box2_snd w ds es 28 28 7 (.slice ca' cms'.length cc') (by rw [← hes]; rfl)
  have HB := Lib.hid (fun (w1 : World) (h : Below (w.heap.size + 2) ((w.alloc (.cells ds 28)).alloc (.cells es 28)) w1) => box2_below h)
  have hb0 : Below (w.heap.size + 2) ((w.alloc (.cells ds 28)).alloc (.cells es 28)) ((w.alloc (.cells ds 28)).alloc (.cells es 28)) := Below.refl _ _
  have hsz : ((w.alloc (.cells ds 28)).alloc (.cells es 28)).heap.size = w.heap.size + 2 := by simp
  generalize hW0 : (w.alloc (.cells ds 28)).alloc (.cells es 28) = W0 at *
  have HW0 := Lib.hid hW0
  have HLT := Lib.hid (fun (w1 : World) (h : Below (w.heap.size + 2) W0 w1) => (show w.heap.size + 2 ≤ w1.heap.size by have := h.size; rw [hsz] at this; exact this))
  have HT0 := Lib.hid (fun (w2 w3 : World) (h : Below (w.heap.size + 2) W0 w2) (h3 : Below w2.heap.size w2 w3) => h.trans (h3.mono (HLT.out _ h)))
  clear hW0 hsz
  generalize insAll (insAll [] evs') evs' = Z at *
  generalize hR : updGo evs evs' xs Z = R at *
  have H00 := Lib.hid (show [] ++ updGo evs evs' (xs.drop 0) Z = R from hR)
  have HQ := Lib.hid (fun (v : Value) (w' : World) (h : ∃ a c, v = .slice a R.length c ∧ LksAt w' a R) (hb : Below w.heap.size w w') => (show SetPost 0 R w (.returned (.tuple #[v, .int .i64 0])) w' from ⟨⟨v, rfl, fun h => absurd rfl h, fun _ => h⟩, hb⟩))
  generalize SetPost 0 R w = Q at *
  clear hR
  go_enter Tryz.func9, Tryz.ntmps9
  subst hds
  subst hes
  go_wp2_with fail
  rw [HW0.out]
  refine (HIF.out _ (HB.out _ hb0)).mono ?_
  rintro e w1 ⟨rfl, hb1⟩
  have hc1 := HT0.out _ _ hb0 hb1
  clear hb1
  go_wp2_with fail
  refine (HD1.out _ (HB.out _ hc1)).mono ?_
  rintro e w2 ⟨rfl, hb2⟩
  have hc2 := HT0.out _ _ hc1 hb2
  clear hb2
  go_wp2_with fail
  refine (HD2.out _ (HB.out _ hc2)).mono ?_
  rintro e w3 ⟨rfl, hb3⟩
  have hc3 := HT0.out _ _ hc2 hb3
  clear hb3
  go_wp2_with fail
  refine (HCV.out _ (HB.out _ hc3)).mono ?_
  rintro e w4 ⟨rfl, hb4⟩
  have hc4 := HT0.out _ _ hc3 hb4
  clear hb4
  go_wp2_with fail
  refine (HEV.out _ (HB.out _ hc4)).mono ?_
  rintro e w5 ⟨v5, rfl, hI5, hb5⟩
  have hc5 := HT0.out _ _ hc4 hb5
  have HI5 := Lib.hid hI5
  clear hb5 hI5 hc1 hc2 hc3 hc4 HIF HD1 HD2 HCV HEV
  have HT5 := Lib.hid (fun (wr : World) (h : Below w5.heap.size w5 wr) => HT0.out _ _ hc5 h)
  obtain ⟨j0, hj, hy0, hy1, hy2⟩ := info_parts Tryz.info49
  have JI := Lib.hid hj; have J0 := Lib.hid hy0; have J1 := Lib.hid hy1; have J2 := Lib.hid hy2
  clear hj hy0 hy1 hy2
  go_wp2_with fail
  go_loopw [10, 11, 40] (fun vi vo i wr => ∃ (k : Nat) (zs : List Int) (dn : List Lk), k ≤ xs.length ∧ i = .int .i64 k ∧ IntsV w5 vi zs ∧ wr.ownsRow w5.heap.size 49 3 vo dn.length (dn.flatMap Lk.enc) ∧ dn ++ updGo evs evs' (xs.drop k) zs = R ∧ Below w5.heap.size w5 wr) (fun _ _ i _ => xs.length - (intOf i).toNat)
  case atStart => exact ⟨0, Z, [], by omega, rfl, HI5.out, World.ownsRow_nil _ _ _ _, H00.out, Below.refl _ _⟩
  case round =>
    obtain ⟨k, zs, dn, hk, rfl, hI, hown, hp, hb⟩ := hrel
    have hbW := HT5.out _ hb
    clear H00 HI5
    by_cases hlt : k < xs.length
    · obtain ⟨b, off, x, he, hbl, hxk, hc, _⟩ := (HX.out.later (HB.out _ hbW)).at_ hlt
      rw [drop_at xs k x hxk, updGo] at hp
      have HC := Lib.hid (fun (w1 : World) (h : Below (w.heap.size + 2) W0 w1) => HNX.out x w1 (HB.out _ h) (List.mem_of_getElem? hxk))
      obtain ⟨tpl, tgt, st⟩ := x
      have d0 := hc 0 _ rfl; have d1 := hc 1 _ rfl; have d2 := hc 2 _ rfl
      simp only [Nat.add_zero] at d0 d1 d2
      subst he
      simp only [updOne] at hp
      unfold UpdPost at HC
      generalize updLk ⟨tpl, tgt, st⟩ evs evs' = U at *
      obtain ⟨⟨utpl, utgt, ust⟩, ub⟩ := U
      generalize hUG : updGo evs evs' (xs.drop (k + 1)) = UG at *
      have HUG := Lib.hid hUG
      clear hUG
      simp only [Lk.enc] at hp HC
      have HP0 := Lib.hid hp
      have HI0 := Lib.hid hI
      have HO0 := Lib.hid (fun o => hown.alloc o)
      have HNE0 := Lib.hid (fun g hg => (show ¬ g = wr.heap.size by have := (hown.lt g hg).2; omega))
      have HBA := Lib.hid (fun o => (hb.alloc hb.size o : Below w5.heap.size w5 (wr.alloc o)))
      clear hc hxk hp hI hown hb hbW
      go_wp2_with fail
      obtain ⟨wo, rfl⟩ : ∃ wo : World, wo = wr := ⟨_, rfl⟩
      go_loopw [10, 11] (fun vi vo wr => ∃ (zs : List Int) (dn : List Lk), IntsV w5 vi zs ∧ wr.ownsRow w5.heap.size 49 3 vo dn.length (dn.flatMap Lk.enc) ∧ (∀ g, vo.ownBlock = some g → ¬ g = wo.heap.size) ∧ dn ++ ((lowI tpl zs).flatMap freshLk ++ ((if ub = true then [⟨utpl, utgt, ust⟩] else []) ++ UG (skipI tpl (highI tpl zs)))) = R ∧ XB wo.heap.size tpl tgt st wr ∧ Below w5.heap.size w5 wr) (fun vi _ _ => lenV vi)
      case atStart => exact ⟨zs, dn, HI0.out, HO0.out _, HNE0.out, HP0.out, XB.new _ _ _ _, HBA.out _⟩
      case round =>
        clear HP0 HI0 HO0 HNE0 HBA d0 d1 d2
        obtain ⟨zs, dn, hI, hown, hne, hp, hxb, hb⟩ := hrel
        have hdl : dn.length ≤ R.length := by rw [← hp]; simp
        have hbs := hb.size
        have HXB := Lib.hid hxb
        obtain ⟨hxl, x0, x1, x2⟩ := hxb
        have HB5 := Lib.hid hb
        have HOW := Lib.hid hown
        have HNE := Lib.hid hne
        have hbq : ∀ q, Below (w.heap.size + 2) W0 (wr.drewN q) := below_drewN (HT5.out _ hb)
        have hbq2 : ∀ q q', Below (w.heap.size + 2) W0 ((wr.drewN q).drewN q') := fun q q' => below_drewN (hbq q) q'
        have HCI := Lib.hid hI.cases
        have HIS := Lib.hid hI
        clear hown hne hb hI
        rcases HCI.out with ⟨rfl, a1, c1, rfl⟩ | ⟨z, r, b1, o1, cp, A, rfl, rfl, hbl1, hcp, hcz, hA, hIr⟩
        · have HIV := Lib.hid (show IntsV w5 (.slice a1 0 c1) [] from HIS.out)
          have HV := Lib.hid (show dn ++ ((if ub = true then [⟨utpl, utgt, ust⟩] else []) ++ UG []) = R from hp)
          clear hp HCI
          cases ub
          · go_wp2_with fail
            go_quiet (fail)
            go_wp2_with fail
            go_quiet (fail)
            go_wp2_with (go_at_call 36; refine (HC.out _ (by first | exact hbq2 _ _ | exact hbq _ | assumption)).mono ?_; rintro e w8 ⟨rfl, hb8⟩; have h58 : Below w5.heap.size w5 w8 := (below_drewN HB5.out _).trans (hb8.mono (by first | exact hbs | (simp; exact hbs))); have ho8 := Lib.hid (own_below (show (wr.drewN _).ownsRow w5.heap.size 49 3 _ _ _ from HOW.out) hb8 (Nat.le_refl _)); have hz8 := h58.size; clear hb8)
            go_roundw
            case rel => exact ⟨k + 1, [], dn, by omega, by go_num, HIV.out, ho8.out.alloc _, by rw [← HV.out, HUG.out]; rfl, h58.alloc hz8 _⟩
            case measure => simp [intOf]; omega
          · go_wp2_with fail
            go_quiet (fail)
            go_wp2_with fail
            go_quiet (fail)
            go_wp2_with (first
              | (go_at_call 36; refine (HC.out _ (by first | exact hbq2 _ _ | exact hbq _ | assumption)).mono ?_; rintro e w8 ⟨rfl, hb8⟩; have h58 : Below w5.heap.size w5 w8 := (below_drewN HB5.out _).trans (hb8.mono (by first | exact hbs | (simp; exact hbs))); have ho8 := Lib.hid (own_below (show (wr.drewN _).ownsRow w5.heap.size 49 3 _ _ _ from HOW.out) hb8 (Nat.le_refl _)); have hz8 := h58.size; clear hb8)
              | (at_builtin; refine wpList_append_new _ _ rfl (.tmp 85) (.tmp 87) 22 rfl w5.heap.size 49 j0 _ 3 24 Tryz.underlying22 JI.out J0.out J1.out J2.out rfl (by decide) _ _ _ rfl (ho8.out.alloc _) _ rfl (by simp) rfl ?h1 ?h63 ?hb ?hbase ?_))
            case h1 => first | rfl | exact ⟨rfl, rfl, rfl⟩ | (intro u hu; simp at hu; rcases hu with rfl | rfl | rfl <;> rfl)
            case h63 => unfold maxLen; omega
            case hb => omega
            case hbase => simp; omega
            intro v' w9 hown' hgrow
            have R1 : w9.ownsRow w5.heap.size 49 3 v' (dn ++ [(⟨utpl, utgt, ust⟩ : Lk)]).length ((dn ++ [(⟨utpl, utgt, ust⟩ : Lk)]).flatMap Lk.enc) := by simpa [Lk.enc] using hown'
            have R2 : Below w5.heap.size w5 w9 := ((h58.alloc hz8 _).alloc (by simp; omega) _).grown hgrow (by simp; omega) (fun j hj => (ho8.out.lt j hj).1)
            have HR := Lib.hid (And.intro R1 R2)
            clear hown' hgrow R1 R2 ho8
            go_wp2_with fail
            go_roundw
            case rel => exact ⟨k + 1, [], dn ++ [⟨utpl, utgt, ust⟩], by omega, by go_num, HIV.out, HR.out.1, by rw [← HV.out, HUG.out]; simp, HR.out.2⟩
            case measure => simp [intOf]; omega
        · have hz := (HB5.out.cell (p := ⟨b1, o1, none⟩) hbl1).trans hcz
          have hl0 : decide ((0 : Int) < (r.length : Int) + 1) = true := by simp
          have hl1 : (1 : Int) ≤ (r.length : Int) + 1 := by omega
          have hl2 : (0 : Int) < (r.length : Int) + 1 := by omega
          have hl3 : decide (0 < r.length + 1) = true := by simp
          clear HCI hcz
          rcases (show z < tpl ∨ (z = tpl) ∨ (tpl < z ∧ decide (z < tpl) = false ∧ (z == tpl) = false) by
            by_cases e1 : z < tpl
            · exact .inl e1
            · by_cases e2 : z = tpl
              · exact .inr (.inl e2)
              · exact .inr (.inr ⟨by omega, by simpa using e1, by simpa using e2⟩)) with hzt | rfl | ⟨hgt, hzd, hze⟩
          · have hlw := low_cons (r := r) hzt
            rw [hlw.1, hlw.2] at hp
            have hzd : decide (z < tpl) = true := by simpa using hzt
            have HV := Lib.hid hp
            have HIR := Lib.hid hIr
            clear hp hIr hlw
            go_wp2_with fail
            go_quiet (fail)
            go_wp2_with (at_builtin; refine wpList_append_lies _ rfl (.tmp 55) (.tmp 60) 22 rfl w5.heap.size 49 j0 _ 3 24 Tryz.underlying22 JI.out J0.out J1.out J2.out rfl (by decide) _ _ _ rfl ((show (wr.drewN _).ownsRow w5.heap.size 49 3 _ _ _ from HOW.out).alloc _) _ 1 1 [.int .i64 z, .int .i64 0, .int .u8 3] rfl rfl ?hn ?h1 (by decide) ?h63 ?hb ?hbase _ rfl ?_)
            case hn => intro j u hu; exact cells_new _ _ _ j u hu
            case h1 => (intro u hu; simp at hu; rcases hu with rfl | rfl | rfl <;> rfl)
            case h63 => unfold maxLen; omega
            case hb => omega
            case hbase => (simp; omega)
            intro g' cp' w7 hown' hgrow hat hlt'
            have R1 : w7.ownsRow w5.heap.size 49 3 (.slice (some ⟨g', 0, none⟩) (dn.length + 1) cp') (dn ++ [(⟨z, 0, 3⟩ : Lk)]).length ((dn ++ [(⟨z, 0, 3⟩ : Lk)]).flatMap Lk.enc) := by simpa [Lk.enc] using hown'
            have R2 : Below w5.heap.size w5 w7 := ((below_drewN HB5.out _).alloc (by simp; omega) _).grown hgrow (by simp; omega) (fun j hj => (HOW.out.lt j hj).1)
            have R3 : XB wo.heap.size tpl tgt st w7 := XB.grown (XB.alloc (show XB wo.heap.size tpl tgt st (wr.drewN _) from HXB.out) _) hgrow (fun h => HNE.out _ h.symm rfl)
            have R4 : ∀ g, (Value.slice (some ⟨g', 0, none⟩) (dn.length + 1) cp').ownBlock = some g → ¬ g = wo.heap.size := by
              intro g hg
              obtain rfl : g' = g := by simpa [Value.ownBlock] using hg
              rcases hat with h | h
              · exact HNE.out _ h
              · first | omega | (simp at h; omega)
            have HR := Lib.hid (And.intro R1 (And.intro R2 (And.intro R3 R4)))
            clear hown' hgrow hat hlt' R1 R2 R3 R4
            go_wp2_with fail
            go_roundw
            case rel => exact ⟨r, dn ++ [⟨z, 0, 3⟩], HIR.out, HR.out.1, HR.out.2.2.2, by rw [← HV.out]; simp [freshLk], HR.out.2.2.1, HR.out.2.1⟩
            case measure => simp [lenV]
          · have hlw := low_stop (t := z) (r := r) (show ¬ z < z by omega)
            rw [hlw.1, hlw.2] at hp
            have hzd : decide (z < z) = false := by simp
            have hze : (z == z) = true := by simp
            have HV := Lib.hid (show dn ++ ((if ub = true then [⟨utpl, utgt, ust⟩] else []) ++ UG r) = R by rw [← hp, show skipI z (z :: r) = r by rw [show skipI z (z :: r) = if z = z then r else z :: r from rfl, if_pos rfl]]; rfl)
            have HIR := Lib.hid hIr
            clear hp hIr hlw
            cases ub
            · go_wp2_with fail
              go_quiet (fail)
              go_wp2_with fail
              go_quiet (fail)
              go_wp2_with (go_at_call 36; refine (HC.out _ (by first | exact hbq2 _ _ | exact hbq _ | assumption)).mono ?_; rintro e w8 ⟨rfl, hb8⟩; have h58 : Below w5.heap.size w5 w8 := (below_drewN HB5.out _).trans (hb8.mono (by first | exact hbs | (simp; exact hbs))); have ho8 := Lib.hid (own_below (show (wr.drewN _).ownsRow w5.heap.size 49 3 _ _ _ from HOW.out) hb8 (Nat.le_refl _)); have hz8 := h58.size; clear hb8)
              go_roundw
              case rel => exact ⟨k + 1, r, dn, by omega, by go_num, HIR.out, ho8.out.alloc _, by rw [← HV.out, HUG.out]; rfl, h58.alloc hz8 _⟩
              case measure => simp [intOf]; omega
            · go_wp2_with fail
              go_quiet (fail)
              go_wp2_with fail
              go_quiet (fail)
              go_wp2_with (first
                | (go_at_call 36; refine (HC.out _ (by first | exact hbq2 _ _ | exact hbq _ | assumption)).mono ?_; rintro e w8 ⟨rfl, hb8⟩; have h58 : Below w5.heap.size w5 w8 := (below_drewN HB5.out _).trans (hb8.mono (by first | exact hbs | (simp; exact hbs))); have ho8 := Lib.hid (own_below (show (wr.drewN _).ownsRow w5.heap.size 49 3 _ _ _ from HOW.out) hb8 (Nat.le_refl _)); have hz8 := h58.size; clear hb8)
                | (at_builtin; refine wpList_append_new _ _ rfl (.tmp 85) (.tmp 87) 22 rfl w5.heap.size 49 j0 _ 3 24 Tryz.underlying22 JI.out J0.out J1.out J2.out rfl (by decide) _ _ _ rfl (ho8.out.alloc _) _ rfl (by simp) rfl ?h1 ?h63 ?hb ?hbase ?_))
              case h1 => first | rfl | exact ⟨rfl, rfl, rfl⟩ | (intro u hu; simp at hu; rcases hu with rfl | rfl | rfl <;> rfl)
              case h63 => unfold maxLen; omega
              case hb => omega
              case hbase => simp; omega
              intro v' w9 hown' hgrow
              have R1 : w9.ownsRow w5.heap.size 49 3 v' (dn ++ [(⟨utpl, utgt, ust⟩ : Lk)]).length ((dn ++ [(⟨utpl, utgt, ust⟩ : Lk)]).flatMap Lk.enc) := by simpa [Lk.enc] using hown'
              have R2 : Below w5.heap.size w5 w9 := ((h58.alloc hz8 _).alloc (by simp; omega) _).grown hgrow (by simp; omega) (fun j hj => (ho8.out.lt j hj).1)
              have HR := Lib.hid (And.intro R1 R2)
              clear hown' hgrow R1 R2 ho8
              go_wp2_with fail
              go_roundw
              case rel => exact ⟨k + 1, r, dn ++ [⟨utpl, utgt, ust⟩], by omega, by go_num, HIR.out, HR.out.1, by rw [← HV.out, HUG.out]; simp, HR.out.2⟩
              case measure => simp [intOf]; omega
          · have hlw := low_stop (t := tpl) (r := r) (show ¬ z < tpl by omega)
            rw [hlw.1, hlw.2] at hp
            have HV := Lib.hid (show dn ++ ((if ub = true then [⟨utpl, utgt, ust⟩] else []) ++ UG (z :: r)) = R by rw [← hp, show skipI tpl (z :: r) = z :: r by rw [show skipI tpl (z :: r) = if z = tpl then r else z :: r from rfl, if_neg (by omega)]]; rfl)
            clear hp hIr hlw hgt
            cases ub
            · go_wp2_with fail
              go_quiet (fail)
              go_wp2_with fail
              go_quiet (fail)
              go_wp2_with (go_at_call 36; refine (HC.out _ (by first | exact hbq2 _ _ | exact hbq _ | assumption)).mono ?_; rintro e w8 ⟨rfl, hb8⟩; have h58 : Below w5.heap.size w5 w8 := (below_drewN HB5.out _).trans (hb8.mono (by first | exact hbs | (simp; exact hbs))); have ho8 := Lib.hid (own_below (show (wr.drewN _).ownsRow w5.heap.size 49 3 _ _ _ from HOW.out) hb8 (Nat.le_refl _)); have hz8 := h58.size; clear hb8)
              go_roundw
              case rel => exact ⟨k + 1, (z :: r), dn, by omega, by go_num, HIS.out, ho8.out.alloc _, by rw [← HV.out, HUG.out]; rfl, h58.alloc hz8 _⟩
              case measure => simp [intOf]; omega
            · go_wp2_with fail
              go_quiet (fail)
              go_wp2_with fail
              go_quiet (fail)
              go_wp2_with (first
                | (go_at_call 36; refine (HC.out _ (by first | exact hbq2 _ _ | exact hbq _ | assumption)).mono ?_; rintro e w8 ⟨rfl, hb8⟩; have h58 : Below w5.heap.size w5 w8 := (below_drewN HB5.out _).trans (hb8.mono (by first | exact hbs | (simp; exact hbs))); have ho8 := Lib.hid (own_below (show (wr.drewN _).ownsRow w5.heap.size 49 3 _ _ _ from HOW.out) hb8 (Nat.le_refl _)); have hz8 := h58.size; clear hb8)
                | (at_builtin; refine wpList_append_new _ _ rfl (.tmp 85) (.tmp 87) 22 rfl w5.heap.size 49 j0 _ 3 24 Tryz.underlying22 JI.out J0.out J1.out J2.out rfl (by decide) _ _ _ rfl (ho8.out.alloc _) _ rfl (by simp) rfl ?h1 ?h63 ?hb ?hbase ?_))
              case h1 => first | rfl | exact ⟨rfl, rfl, rfl⟩ | (intro u hu; simp at hu; rcases hu with rfl | rfl | rfl <;> rfl)
              case h63 => unfold maxLen; omega
              case hb => omega
              case hbase => simp; omega
              intro v' w9 hown' hgrow
              have R1 : w9.ownsRow w5.heap.size 49 3 v' (dn ++ [(⟨utpl, utgt, ust⟩ : Lk)]).length ((dn ++ [(⟨utpl, utgt, ust⟩ : Lk)]).flatMap Lk.enc) := by simpa [Lk.enc] using hown'
              have R2 : Below w5.heap.size w5 w9 := ((h58.alloc hz8 _).alloc (by simp; omega) _).grown hgrow (by simp; omega) (fun j hj => (ho8.out.lt j hj).1)
              have HR := Lib.hid (And.intro R1 R2)
              clear hown' hgrow R1 R2 ho8
              go_wp2_with fail
              go_roundw
              case rel => exact ⟨k + 1, (z :: r), dn ++ [⟨utpl, utgt, ust⟩], by omega, by go_num, HIS.out, HR.out.1, by rw [← HV.out, HUG.out]; simp, HR.out.2⟩
              case measure => simp [intOf]; omega
    · obtain rfl : k = xs.length := by omega
      rw [List.drop_length, updGo] at hp
      obtain ⟨a6, c6, hv6, hI6⟩ := hI.form
      subst hv6
      have hdl : dn.length + zs.length ≤ R.length := by
        rw [← hp, List.length_append]
        have : (zs.flatMap freshLk).length = zs.length := by
          clear hp hI hI6
          induction zs with
          | nil => rfl
          | cons z l ih => rw [List.flatMap_cons, List.length_append, ih]; simp [freshLk]; omega
        omega
      have HI6 := Lib.hid hI6
      have H06 := Lib.hid (show OwnLk freshLk dn zs w5.heap.size w5 0 _ wr from ⟨by rw [upTo, List.append_nil]; exact hown, hb⟩)
      have HV := Lib.hid hp
      clear hown hp hI hI6 hlt hk HNX
      go_wp2_with fail
      obtain ⟨wo, rfl⟩ : ∃ wo : World, wo = wr := ⟨_, rfl⟩
      clear hb hbW
      go_loopw [11, 92] (fun v i wr => ∃ k : Nat, k ≤ zs.length ∧ i = .int .i64 k ∧ OwnLk freshLk dn zs w5.heap.size w5 k v wr) (fun _ i _ => zs.length - (intOf i).toNat)
      case atStart => exact ⟨0, by omega, rfl, H06.out⟩
      case round =>
        obtain ⟨k, hk, rfl, hown, hb⟩ := hrel
        clear H06
        have hlk := upTo_len freshLk freshLk_one zs k
        have hlen : (dn ++ upTo freshLk zs k).length ≤ 12000000 := by rw [List.length_append]; omega
        have hbs := hb.size
        by_cases hlt : k < zs.length
        · obtain ⟨b1, o1, z, rfl, hbl1, hzk, hc, _⟩ := (HI6.out.later hb).at_ hlt
          have HAT := Lib.hid (upTo_at freshLk zs k z hzk)
          have HLT1 := Lib.hid (fun j hj => (hown.lt j hj).1)
          have d0 := hc 0 _ rfl
          simp only [Nat.add_zero, Nat.mul_one] at d0
          clear hc hzk
          go_wp2_with (at_builtin; refine wpList_append_new _ _ rfl (.tmp 96) (.tmp 99) 22 rfl w5.heap.size 49 j0 _ 3 24 Tryz.underlying22 JI.out J0.out J1.out J2.out rfl (by decide) _ _ _ rfl hown _ rfl rfl rfl ?h1 ?h63 ?hb ?hbase ?_)
          case h1 => first | rfl | exact ⟨rfl, rfl, rfl⟩ | (intro u hu; simp at hu; rcases hu with rfl | rfl | rfl <;> rfl)
          case h63 => unfold maxLen; omega
          case hb => omega
          case hbase => omega
          intro v' w6 hown' hgrow
          have RR : OwnLk freshLk dn zs w5.heap.size w5 (k + 1) v' w6 := by
            refine ⟨?_, (hb.alloc hbs _).grown hgrow (by simp; omega) (fun j hj => HLT1.out j hj)⟩
            rw [HAT.out, ← List.append_assoc]
            simpa [Lk.enc, freshLk, Nat.add_assoc] using hown'
          clear hown' hgrow hown
          go_wp2_with fail
          go_roundw
          case rel => exact ⟨k + 1, by omega, by go_num, RR⟩
          case measure => simp [intOf]; omega
        · obtain rfl : k = zs.length := by omega
          rw [upTo_all, HV.out] at hown
          have hy := Lks.of_owns hown
          have HFIN := Lib.hid (HQ.out _ wr hy (HB.out _ (HT5.out _ hb)))
          obtain ⟨a7, c7, hv7, _⟩ := hy
          subst hv7
          clear hown
          go_wp2_with fail
          exact HFIN.out

theorem refUpdate_calls (a : Option Addr) (cap : Nat) (xs : List Lk) (d d' : Doc) (w : World) (hE : Env w) (hx : LksAt w a xs) (hfx : ∀ x ∈ xs, x.fits) (hlx : xs.length ≤ 4000000) (hcap : xs.length ≤ cap) (hd : d.lies w) (hd' : d'.lies w) (hf : d.fits) (hf' : d'.fits) :
    Calls Tryz.prog 9 #[.slice a xs.length cap, .agg d.enc.toArray, .agg d'.enc.toArray] w (SetPost (updErr xs d d') (updGo d.evs d'.evs xs (insAll (insAll [] d'.evs) d'.evs)) w) := by
  cases h1 : formB xs
  · exact refUpdate_bad a cap xs d d' w hE hx hfx hlx hcap hd hd' hf hf' (.inl h1) _
  · by_cases h2 : docErr d = 0
    · by_cases h3 : docErr d' = 0
      · cases h4 : belongB xs d.evs
        · exact refUpdate_bad a cap xs d d' w hE hx hfx hlx hcap hd hd' hf hf' (.inr ⟨h1, .inr ⟨h2, .inr ⟨h3, h4⟩⟩⟩) _
        · rw [show updErr xs d d' = 0 by unfold updErr; rw [if_neg (by rw [h1]; decide), if_neg (by rw [h2]; decide), if_neg (by rw [h3]; decide), if_neg (by rw [h4]; decide)]]
          exact refUpdate_good a cap xs d d' w hE hx hfx hlx hcap hd hd' hf hf' h1 h2 h3 h4
      · exact refUpdate_bad a cap xs d d' w hE hx hfx hlx hcap hd hd' hf hf' (.inr ⟨h1, .inr ⟨h2, .inl (by simpa using h3)⟩⟩) _
    · exact refUpdate_bad a cap xs d d' w hE hx hfx hlx hcap hd hd' hf hf' (.inr ⟨h1, .inl (by simpa using h2)⟩) _


end Go.Proofs.YtdgakmpopgpijaaGreatDoor

/- The contract of the law AlignUpdates: it returns true. -/
namespace Go.Proofs.YtdgakmpopgpijaaGreatDoor
open Go.RowKit

def linksIf (E : Int) (ys : List Lk) : List Lk := if E = 0 then ys else []
theorem SetPost.open {E : Int} {ys : List Lk} {w w' : World} {e : Ending} (h : SetPost E ys w e w') : ∃ a c, e = .returned (.tuple #[.slice a (linksIf E ys).length c, .int .i64 E]) ∧ LksAt w' a (linksIf E ys) ∧ Below w.heap.size w w' := by
  obtain ⟨⟨v, rfl, h1, h2⟩, hb⟩ := h
  unfold linksIf
  by_cases hE : E = 0
  · obtain ⟨a, c, rfl, hy⟩ := h2 hE
    rw [if_pos hE]
    exact ⟨a, c, rfl, hy, hb⟩
  · obtain rfl := h1 hE
    rw [if_neg hE]
    exact ⟨none, 0, rfl, .inl rfl, hb⟩
theorem upd_zero {xs : List Lk} {d d' : Doc} (h : updErr xs d d' = 0) : formB xs = true ∧ docErr d = 0 ∧ docErr d' = 0 ∧ belongB xs d.evs = true := by
  unfold updErr at h
  split at h
  · exact absurd h (by decide)
  · rename_i h1
    split at h
    · rename_i h2
      rw [h] at h2
      exact absurd h2 (by decide)
    · rename_i h2
      split at h
      · rename_i h3
        rw [h] at h3
        exact absurd h3 (by decide)
      · rename_i h3
        split at h
        · exact absurd h (by decide)
        · rename_i h4
          exact ⟨by simpa using h1, by simpa using h2, by simpa using h3, by simpa using h4⟩
theorem UpdatePost.set {xs : List Lk} {d d' : Doc} {w w' : World} {e : Ending} (h : UpdatePost xs d d' w e w') : SetPost (updErr xs d d') (updGo d.evs d'.evs xs (insAll (insAll [] d'.evs) d'.evs)) w e w' := by
  obtain ⟨⟨v, rfl, h1, h2⟩, hb⟩ := h
  refine ⟨⟨v, rfl, h1, fun h0 => ?_⟩, hb⟩
  obtain ⟨ys, a, c, rfl, hy, hp, hs⟩ := h2 h0
  have hz := upd_zero h0
  have hi := insAll_ids d'.evs
  have he := updates_same hz.1 hz.2.2.1 hi.1 hi.2 hp hs
  rw [← he]
  exact ⟨a, c, rfl, hy⟩
theorem upds_len (xs : List Lk) (d d' : Doc) (hlx : xs.length ≤ 2000000) (hl : d'.evs.length ≤ 4000000) : (linksIf (updErr xs d d') (updGo d.evs d'.evs xs (insAll (insAll [] d'.evs) d'.evs))).length ≤ 8000000 := by
  unfold linksIf
  split
  · rename_i h0
    have hz := upd_zero h0
    have hi := insAll_ids d'.evs
    have h1 := updGo_len d.evs d'.evs xs (insAll (insAll [] d'.evs) d'.evs)
    have nd : (idsOf d'.evs).Nodup := by
      unfold idsOf List.Nodup
      rw [List.pairwise_map]
      exact doc_nodup hz.2.2.1
    have nd2 : (insAll (insAll [] d'.evs) d'.evs).Nodup := hi.1.imp fun h => by omega
    have hp := ((List.perm_ext_iff_of_nodup nd2 nd).2 hi.2).length_eq
    have h2 : (idsOf d'.evs).length = d'.evs.length := by simp [idsOf]
    omega
  · simp

set_option maxRecDepth 100000 in
set_option maxHeartbeats 6400000 in
theorem updatesLaw_calls (a : Option Addr) (cap : Nat) (xs : List Lk) (d d' : Doc) (w : World) (hE : Env w) (hx : LksAt w a xs) (hfx : ∀ x ∈ xs, x.fits) (hlx : xs.length ≤ 2000000) (hcap : xs.length ≤ cap) (hd : d.lies w) (hd' : d'.lies w) (hf : d.fits) (hf' : d'.fits) :
    Calls Tryz.prog 3 #[.slice a xs.length cap, .agg (d.enc ++ d'.enc).toArray] w fun e w' => e = .returned (.bool true) ∧ Below w.heap.size w w' := by
  have hl4 : xs.length ≤ 4000000 := by omega
  have hAW := fun (w1 : World) (h : Below w.heap.size w w1) => awake_calls w1 (hE.below h (Nat.le_refl _))
  have hS1 := fun (w1 : World) (h : Below w.heap.size w w1) => (update_calls a cap xs d d' w1 (hE.below h (Nat.le_refl _)) (hx.later h) hfx hl4 (Doc.later hd h) (Doc.later hd' h) hf hf').mono (fun e w' h => h.set.open)
  have hS2 := fun (w1 : World) (h : Below w.heap.size w w1) => (refUpdate_calls a cap xs d d' w1 (hE.below h (Nat.le_refl _)) (hx.later h) hfx hl4 hcap (Doc.later hd h) (Doc.later hd' h) hf hf').mono (fun e w' h => h.open)
  have hly := upds_len xs d d' hlx hf'.2.2.2.2.2.2.2.2.1
  generalize linksIf (updErr xs d d') (updGo d.evs d'.evs xs (insAll (insAll [] d'.evs) d'.evs)) = Y at *
  generalize updErr xs d d' = DE at *
  have HSM := Lib.hid (fun (a a' : Option Addr) (c c' : Nat) (w1 : World) (h : LksAt w1 a Y) (h' : LksAt w1 a' Y) => same_links a a' c c' Y Y w1 h h' hly)
  have y1 : decide (Y = Y) = true := by simp
  rw [y1] at HSM
  have e4 : (DE == DE) = true := by simp
  have HQ := Lib.hid (fun w' (hb : Below w.heap.size w w') => (show (fun (e : Ending) w' => e = .returned (.bool true) ∧ Below w.heap.size w w') (.returned (.bool true)) w' from ⟨rfl, hb⟩))
  obtain ⟨title, lang, rate, drop, last, ra, rc, regs, ea, ec, evs, ca, cc, cms⟩ := d
  obtain ⟨title', lang', rate', drop', last', ra', rc', regs', ea', ec', evs', ca', cc', cms'⟩ := d'
  simp only [Doc.enc] at hS1 hS2 ⊢
  simp only [List.cons_append, List.nil_append]
  generalize hds : #[Value.string title, .string lang, .int .u8 rate, .bool drop, .int .i64 last, .slice ra regs.length rc, .slice ea evs.length ec, .slice ca cms.length cc, Value.string title', .string lang', .int .u8 rate', .bool drop', .int .i64 last', .slice ra' regs'.length rc', .slice ea' evs'.length ec', .slice ca' cms'.length cc'] = ds at *
  have f0 := box_cell w ds 30 0 (.string title) (by rw [← hds]; rfl)
  have f1 := box_cell w ds 30 1 (.string lang) (by rw [← hds]; rfl)
  have f2 := box_cell w ds 30 2 (.int .u8 rate) (by rw [← hds]; rfl)
  have f3 := box_cell w ds 30 3 (.bool drop) (by rw [← hds]; rfl)
  have f4 := box_cell w ds 30 4 (.int .i64 last) (by rw [← hds]; rfl)
  have f5 := box_cell w ds 30 5 (.slice ra regs.length rc) (by rw [← hds]; rfl)
  have f6 := box_cell w ds 30 6 (.slice ea evs.length ec) (by rw [← hds]; rfl)
  have f7 := box_cell w ds 30 7 (.slice ca cms.length cc) (by rw [← hds]; rfl)
  have f8 := box_cell w ds 30 8 (.string title') (by rw [← hds]; rfl)
  have f9 := box_cell w ds 30 9 (.string lang') (by rw [← hds]; rfl)
  have f10 := box_cell w ds 30 10 (.int .u8 rate') (by rw [← hds]; rfl)
  have f11 := box_cell w ds 30 11 (.bool drop') (by rw [← hds]; rfl)
  have f12 := box_cell w ds 30 12 (.int .i64 last') (by rw [← hds]; rfl)
  have f13 := box_cell w ds 30 13 (.slice ra' regs'.length rc') (by rw [← hds]; rfl)
  have f14 := box_cell w ds 30 14 (.slice ea' evs'.length ec') (by rw [← hds]; rfl)
  have f15 := box_cell w ds 30 15 (.slice ca' cms'.length cc') (by rw [← hds]; rfl)
  have HB := Lib.hid (fun (w1 : World) (h : Below (w.heap.size + 1) (w.alloc (.cells ds 30)) w1) => box_below h)
  have hb0 : Below (w.heap.size + 1) (w.alloc (.cells ds 30)) (w.alloc (.cells ds 30)) := Below.refl _ _
  have hsz : (w.alloc (.cells ds 30)).heap.size = w.heap.size + 1 := World.size_alloc _ _
  generalize hW0 : w.alloc (.cells ds 30) = W0 at *
  have HW0 := Lib.hid hW0
  have HLT := Lib.hid (fun (w1 : World) (h : Below (w.heap.size + 1) W0 w1) => (show w.heap.size + 1 ≤ w1.heap.size by have := h.size; rw [hsz] at this; exact this))
  have HT0 := Lib.hid (fun (w2 w3 : World) (h : Below (w.heap.size + 1) W0 w2) (h3 : Below w2.heap.size w2 w3) => h.trans (h3.mono (HLT.out _ h)))
  have HAW := Lib.hid (fun (w1 : World) (h : Below (w.heap.size + 1) W0 w1) => (hAW w1 (HB.out _ h)).mono (fun e w' (q : e = .returned (.bool true) ∧ Below w1.heap.size w1 w') => (show e = .returned (.bool true) ∧ Below (w.heap.size + 1) W0 w' from ⟨q.1, HT0.out _ _ h q.2⟩)))
  have HS1 := Lib.hid hS1; have HS2 := Lib.hid hS2
  generalize (fun (e : Ending) w' => e = .returned (.bool true) ∧ Below w.heap.size w w') = Q at *
  clear hW0 hsz hAW hS1 hS2 hE hx hfx hd hd' hf hf' y1
  go_enter Tryz.func3, Tryz.ntmps3
  subst hds
  go_wp2_with fail
  rw [HW0.out]
  refine (HAW.out _ hb0).mono ?_
  rintro e w1 ⟨rfl, hb⟩
  go_wp2_with fail
  refine (HS1.out _ (HB.out _ hb)).mono ?_
  rintro e w2 ⟨a2, k2, rfl, hy2, hb2⟩
  have hc2 := HT0.out _ _ hb hb2
  have HY2 := Lib.hid hy2
  clear hb2 hy2
  go_wp2_with fail
  refine (HS2.out _ (HB.out _ hc2)).mono ?_
  rintro e w3 ⟨a3, k3, rfl, hy3, hb3⟩
  have hc3 := HT0.out _ _ hc2 hb3
  have HM := Lib.hid (HSM.out a2 a3 k2 k3 w3 (HY2.out.later hb3) hy3)
  clear hb3 hy3
  go_wp2_with fail
  refine HM.out.mono ?_
  rintro e w4 ⟨rfl, hb4⟩
  have hc4 := HT0.out _ _ hc3 hb4
  clear hb4
  go_wp2_with fail
  exact HQ.out _ (HB.out _ hc4)


end Go.Proofs.YtdgakmpopgpijaaGreatDoor
