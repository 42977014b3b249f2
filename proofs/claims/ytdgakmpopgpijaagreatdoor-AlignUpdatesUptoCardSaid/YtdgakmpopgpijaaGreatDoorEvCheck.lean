/- The contract of event.Check: the first error of an event. -/
import Derived.Test.YtdgakmpopgpijaaGreatDoorLess
set_option linter.unusedVariables false
namespace Go.Proofs.YtdgakmpopgpijaaGreatDoor
open Go.RowKit

def rowsFrom : List Row → Int
  | [] => 0
  | r :: l => if (evRowErr r.runs != 0) = true then evRowErr r.runs else rowsFrom l
/-- The error of the rows of an event in a region. -/
def rowsErr (R : Reg) (rows : List Row) : Int := if (rowsFrom rows != 0) = true then rowsFrom rows else placeErr R (lensOf rows)
/-- The error of an event but for its rows. -/
def evHead (x : Ev) (found : Bool) : Int :=
  if x.id < 1 ∨ 1099511627776 < x.id ∨ spansB x.inn x.out = false then 2 else if found = false then 6 else if x.kind < 1 ∨ 4 < x.kind then 3 else if ¬ x.speaker.toList = [] ∧ nameB x.speaker = false then 5 else if x.rows.length = 0 ∨ 4 < x.rows.length then 9 else 0
/-- The first error of an event. -/
def evErr (x : Ev) (regs : List Reg) : Int := if (evHead x (findR regs x.region).2 != 0) = true then evHead x (findR regs x.region).2 else rowsErr (findR regs x.region).1 x.rows

def rowsGo (R : Reg) (rows : List Row) (k : Nat) : Int := if (rowsFrom (rows.drop k) != 0) = true then rowsFrom (rows.drop k) else placeErr R (lensOf rows)
theorem rowsGo_at (R : Reg) (rows : List Row) (k : Nat) (r : Row) (h : rows[k]? = some r) : rowsGo R rows k = if (evRowErr r.runs != 0) = true then evRowErr r.runs else rowsGo R rows (k + 1) := by
  unfold rowsGo
  rw [drop_at rows k r h, rowsFrom]
  by_cases he : (evRowErr r.runs != 0) = true
  · rw [if_pos he, if_pos he, if_pos he]
  · rw [if_neg he, if_neg he]
theorem rowsGo_end (R : Reg) (rows : List Row) : rowsGo R rows rows.length = placeErr R (lensOf rows) := by
  unfold rowsGo
  rw [List.drop_length]; rfl

theorem kindName_no (k : Int) (h : k < 1 ∨ 4 < k) : kindName k = ⟨#[]⟩ := by unfold kindName; repeat rw [if_neg (by omega)]
theorem kindName_yes (k : Int) (h0 : 1 ≤ k) (h : k ≤ 4) : ¬ (kindName k).toList = [] := by
  rcases (show k = 1 ∨ k = 2 ∨ k = 3 ∨ k = 4 by omega) with rfl | rfl | rfl | rfl <;> decide +kernel
theorem empty_list : (⟨#[]⟩ : ByteArray).toList = [] := by decide +kernel

theorem findR_fits (regs : List Reg) (nm : ByteArray) (hf : ∀ r ∈ regs, r.fits) : (findR regs nm).1.fits := by
  have hd : defReg.fits := by simp only [defReg, Reg.fits, i64]; decide
  have hz : zeroReg.fits := by simp only [zeroReg, Reg.fits, i64]; decide
  have key : ∀ l : List Reg, (∀ r ∈ l, r.fits) → (findL nm l).1.fits := by
    intro l
    induction l with
    | nil => intro _; exact hz
    | cons r l ih =>
      intro h
      rw [findL]
      split
      · exact h r (by simp)
      · exact ih (fun q hq => h q (by simp [hq]))
  unfold findR
  split
  · exact hd
  · exact key regs hf

theorem ev_cases (x : Ev) (found : Bool) : (evHead x found = 2 ∧ (x.id < 1 ∨ (1 ≤ x.id ∧ 1099511627776 < x.id))) ∨ (evHead x found = 2 ∧ 1 ≤ x.id ∧ x.id ≤ 1099511627776 ∧ spansB x.inn x.out = false) ∨
    (1 ≤ x.id ∧ x.id ≤ 1099511627776 ∧ spansB x.inn x.out = true ∧ ((evHead x found = 6 ∧ found = false) ∨ (found = true ∧
      ((evHead x found = 3 ∧ (x.kind < 1 ∨ 4 < x.kind)) ∨ (1 ≤ x.kind ∧ x.kind ≤ 4 ∧
        ((evHead x found = 5 ∧ ¬ x.speaker.toList = [] ∧ nameB x.speaker = false) ∨ ((x.speaker.toList = [] ∨ (¬ x.speaker.toList = [] ∧ nameB x.speaker = true)) ∧
          ((evHead x found = 9 ∧ (x.rows.length = 0 ∨ 4 < x.rows.length)) ∨ (evHead x found = 0 ∧ 1 ≤ x.rows.length ∧ x.rows.length ≤ 4))))))))) := by
  unfold evHead
  generalize x.rows.length = n
  cases hs : spansB x.inn x.out <;> cases found <;> cases hn : nameB x.speaker <;> by_cases hp : x.speaker.toList = [] <;> simp [hp] <;> omega

set_option maxRecDepth 100000 in
set_option maxHeartbeats 6400000 in
theorem evCheck_calls (x : Ev) (a : Option Addr) (cap : Nat) (regs : List Reg) (w : World) (hE : Env w) (hr : x.lies w) (hf : x.fits) (hR : Regs w a regs) (hfr : ∀ r ∈ regs, r.fits) (hlr : regs.length ≤ 4000000) :
    Calls Tryz.prog 40 #[.agg x.enc.toArray, .slice a regs.length cap] w fun e w' => e = .returned (.int .i64 (evErr x regs)) ∧ Below w.heap.size w w' := by
  have hFind := fun w1 h1 => find_calls a cap regs x.region w1 h1 hlr
  have hRf := findR_fits regs x.region hfr
  have hLn := fun w1 h1 h2 => lens_calls x w1 h1 h2 hf
  have hfl := lensOf_bd x.rows hf.2.2.2.2.2.2.2.1
  generalize hG : evErr x regs = G
  unfold evErr at hG
  generalize hF : findR regs x.region = F at *
  obtain ⟨R, found⟩ := F
  simp only at hG hRf
  have hcs := ev_cases x found
  obtain ⟨_, _, _, hs1, hk0, hk1, hs2, hfx, hl⟩ := hf
  have hlens : (lensOf x.rows).length = x.rows.length := by simp [lensOf]
  obtain ⟨id, inn, out, region, kind, speaker, ra, rc, rows⟩ := x
  simp only [Ev.lies] at hr hfx hl hLn hs1 hs2 hk0 hk1 hlens hfl
  simp only [Ev.enc] at hLn hFind ⊢
  generalize evHead ⟨id, inn, out, region, kind, speaker, ra, rc, rows⟩ found = EH at *
  simp only at hG hcs
  have HG := Lib.hid hG
  generalize hcs0 : #[Value.int .i64 id, .int .i64 inn, .int .i64 out, .string region, .int .u8 kind, .string speaker, .slice ra rows.length rc] = cs at *
  have f0 := box_cell w cs 60 0 (.int .i64 id) (by rw [← hcs0]; rfl)
  have f1 := box_cell w cs 60 1 (.int .i64 inn) (by rw [← hcs0]; rfl)
  have f2 := box_cell w cs 60 2 (.int .i64 out) (by rw [← hcs0]; rfl)
  have f3 := box_cell w cs 60 3 (.string region) (by rw [← hcs0]; rfl)
  have f4 := box_cell w cs 60 4 (.int .u8 kind) (by rw [← hcs0]; rfl)
  have f5 := box_cell w cs 60 5 (.string speaker) (by rw [← hcs0]; rfl)
  have f6 := box_cell w cs 60 6 (.slice ra rows.length rc) (by rw [← hcs0]; rfl)
  have HB := Lib.hid (fun (w1 : World) (h : Below (w.heap.size + 1) (w.alloc (.cells cs 60)) w1) => box_below h)
  have HE := Lib.hid (fun (w1 : World) (h : Below (w.heap.size + 1) (w.alloc (.cells cs 60)) w1) => hE.below (box_below h) (Nat.le_refl _))
  have HR := Lib.hid (fun (w1 : World) (h : Below (w.heap.size + 1) (w.alloc (.cells cs 60)) w1) => hr.later (box_below h))
  have HRg := Lib.hid (fun (w1 : World) (h : Below (w.heap.size + 1) (w.alloc (.cells cs 60)) w1) => hR.later (box_below h))
  have hb0 : Below (w.heap.size + 1) (w.alloc (.cells cs 60)) (w.alloc (.cells cs 60)) := Below.refl _ _
  have hsz : (w.alloc (.cells cs 60)).heap.size = w.heap.size + 1 := World.size_alloc _ _
  have HFind := Lib.hid hFind
  have HLn := Lib.hid hLn
  generalize hW0 : w.alloc (.cells cs 60) = W0 at *
  have HW0 := Lib.hid hW0
  have HSZ := Lib.hid hsz
  have HLENS := Lib.hid hlens
  have HRF := Lib.hid hRf
  have HFX := Lib.hid hfx
  have HCS := Lib.hid hcs
  clear hW0 hsz hE hr hR hFind hLn hG hcs hfr hF hlens hRf hfx hfl
  go_enter Tryz.func40, Tryz.ntmps40
  subst hcs0
  go_wp2_with fail
  rw [HW0.out]
  refine (HFind.out _ (HRg.out _ hb0)).mono ?_
  rintro e w1 ⟨rfl, hb1⟩
  rw [HSZ.out] at hb1
  clear HW0 HFind
  obtain ⟨Rn, Rt, Rh, Rl, Rw, Ra, Rb⟩ := R
  simp only [Reg.enc]
  have hlt1 : w.heap.size < w1.heap.size := by have := hb1.size; rw [HSZ.out] at this; omega
  have hb1a : Hid (∀ o, Below (w.heap.size + 1) W0 (w1.alloc o)) := Lib.hid (fun o => hb1.alloc (by omega) o)
  have HGo := Lib.hid (fun (n : Int) (h : EH = n) (h0 : (n != 0) = true) => (show n = G by rw [← HG.out, h, if_pos h0]))
  have HGz := Lib.hid (fun (h : EH = 0) => (show rowsErr ⟨Rn, Rt, Rh, Rl, Rw, Ra, Rb⟩ rows = G by rw [← HG.out, h, if_neg (by decide)]))
  clear HG
  generalize hrs : #[Value.string Rn, .int .i64 Rt, .int .i64 Rh, .int .i64 Rl, .int .i64 Rw, .int .u8 Ra, .bool Rb] = rs at *
  have g0 := box_cell w1 rs 101 0 (.string Rn) (by rw [← hrs]; rfl)
  have g1 := box_cell w1 rs 101 1 (.int .i64 Rt) (by rw [← hrs]; rfl)
  have g2 := box_cell w1 rs 101 2 (.int .i64 Rh) (by rw [← hrs]; rfl)
  have g3 := box_cell w1 rs 101 3 (.int .i64 Rl) (by rw [← hrs]; rfl)
  have g4 := box_cell w1 rs 101 4 (.int .i64 Rw) (by rw [← hrs]; rfl)
  have g5 := box_cell w1 rs 101 5 (.int .u8 Ra) (by rw [← hrs]; rfl)
  have g6 := box_cell w1 rs 101 6 (.bool Rb) (by rw [← hrs]; rfl)
  have hsz1 : (w1.alloc (.cells rs 101)).heap.size = w1.heap.size + 1 := World.size_alloc _ _
  have HT1 := Lib.hid (fun (w2 : World) (h : Below (w1.heap.size + 1) (w1.alloc (.cells rs 101)) w2) => (hb1a.out (.cells rs 101)).trans (h.mono (by omega)))
  have HT2 := Lib.hid (fun (w2 w3 : World) (h : Below (w1.heap.size + 1) (w1.alloc (.cells rs 101)) w2) (h3 : Below w2.heap.size w2 w3) => h.trans (h3.mono (by have := h.size; omega)))
  have hc1 : Below (w1.heap.size + 1) (w1.alloc (.cells rs 101)) (w1.alloc (.cells rs 101)) := Below.refl _ _
  have hd1 : Below (w.heap.size + 1) W0 (w1.alloc (.cells rs 101)) := hb1a.out _
  have HW1s := Lib.hid hsz1
  have HT1b := HT1
  clear hsz1
  generalize hW1 : w1.alloc (.cells rs 101) = W1 at *
  have HW1 := Lib.hid hW1
  clear hW1
  subst hrs
  have hsb := fun w2 => spans_calls inn out w2
  have hkb := fun w2 => kindName_calls kind w2 hk0 hk1
  have hnb := fun w2 => name_calls speaker w2 hs2
  generalize spansB inn out = SP at *
  generalize nameB speaker = NB at *
  have HS := Lib.hid hsb
  have HK := Lib.hid hkb
  have HN := Lib.hid hnb
  clear hsb hkb hnb
  rcases HCS.out with ⟨he, hi | ⟨hi0, hi⟩⟩ | ⟨he, hi0, hi1, hsp⟩ | ⟨hi0, hi1, hsp, ⟨he, rfl⟩ | ⟨rfl, ⟨he, hk⟩ | ⟨hkk0, hkk1, ⟨he, hsq, hnm⟩ | ⟨hsq, ⟨he, hn⟩ | ⟨he, hn0, hn1⟩⟩⟩⟩⟩
  · have HHE := Lib.hid he
    clear he HCS
    go_wp2_with fail
    rw [HW1.out]
    go_ret
    exact ⟨ret_int (HGo.out _ HHE.out rfl), HB.out _ hd1⟩
  · have HHE := Lib.hid he
    clear he HCS
    go_wp2_with fail
    rw [HW1.out]
    go_ret
    exact ⟨ret_int (HGo.out _ HHE.out rfl), HB.out _ hd1⟩
  · have HHE := Lib.hid he
    subst hsp
    clear he HCS
    go_wp2_with fail
    rw [HW1.out]
    refine (HS.out _).mono ?_
    rintro e w2 ⟨rfl, hb2⟩
    have hc2 := HT2.out _ _ hc1 hb2
    have hd2 := HT1.out _ hc2
    go_wp2_with fail
    go_ret
    exact ⟨ret_int (HGo.out _ HHE.out rfl), HB.out _ hd2⟩
  all_goals
    have HHE := Lib.hid he
    subst hsp
    clear he HCS
    go_wp2_with fail
    rw [HW1.out]
    refine (HS.out _).mono ?_
    rintro e w2 ⟨rfl, hb2⟩
    have hc2 := HT2.out _ _ hc1 hb2
    have hd2 := HT1.out _ hc2
    clear hb2
  · go_wp2_with fail
    go_ret
    exact ⟨ret_int (HGo.out _ HHE.out rfl), HB.out _ hd2⟩
  · rw [kindName_no kind hk] at HK
    clear hk
    go_wp2_with fail
    refine (HK.out _).mono ?_
    rintro e w3 ⟨rfl, hb3⟩
    have hc3 := HT2.out _ _ hc2 hb3
    have hd3 := HT1.out _ hc3
    go_wp2_with fail
    go_ret
    exact ⟨ret_int (HGo.out _ HHE.out rfl), HB.out _ hd3⟩
  all_goals
    have hkn := kindName_yes kind hkk0 hkk1
    clear hkk0 hkk1
    generalize kindName kind = KN at *
    have hkn2 : KN.toList.isEmpty = false := by simpa using hkn
    go_wp2_with fail
    refine (HK.out _).mono ?_
    rintro e w3 ⟨rfl, hb3⟩
    have hc3 := HT2.out _ _ hc2 hb3
    have hd3 := HT1.out _ hc3
    clear hb3
  · subst hnm
    have hsq2 : speaker.toList.isEmpty = false := by simpa using hsq
    go_wp2_with fail
    refine (HN.out _).mono ?_
    rintro e w4 ⟨rfl, rfl⟩
    go_wp2_with fail
    go_ret
    exact ⟨ret_int (HGo.out _ HHE.out rfl), HB.out _ hd3⟩
  · rcases hn with hn | hn <;> rcases hsq with hsq | ⟨hsq, rfl⟩
    · have hsq2 : speaker.toList.isEmpty = true := by simpa using hsq
      go_wp2_with fail
      go_ret
      exact ⟨ret_int (HGo.out _ HHE.out rfl), HB.out _ hd3⟩
    · have hsq2 : speaker.toList.isEmpty = false := by simpa using hsq
      go_wp2_with (go_at_call 63; refine (HN.out _).mono ?_; rintro e w4 ⟨rfl, rfl⟩)
      go_ret
      exact ⟨ret_int (HGo.out _ HHE.out rfl), HB.out _ hd3⟩
    · have hsq2 : speaker.toList.isEmpty = true := by simpa using hsq
      have t0 : ((rows.length : Int) == 0) = false := by rw [beq_eq_false_iff_ne]; omega
      have t1 : ¬ rows = [] := by rintro rfl; simp at hn
      go_wp2_with fail
      go_ret
      exact ⟨ret_int (HGo.out _ HHE.out rfl), HB.out _ hd3⟩
    · have hsq2 : speaker.toList.isEmpty = false := by simpa using hsq
      have t0 : ((rows.length : Int) == 0) = false := by rw [beq_eq_false_iff_ne]; omega
      have t1 : ¬ rows = [] := by rintro rfl; simp at hn
      go_wp2_with (go_at_call 63; refine (HN.out _).mono ?_; rintro e w4 ⟨rfl, rfl⟩)
      go_ret
      exact ⟨ret_int (HGo.out _ HHE.out rfl), HB.out _ hd3⟩
  · have HGG := Lib.hid (HGz.out HHE.out)
    clear HGo HGz HHE HS HK hb1a HW1 hlr HRg hc1 hd1 hc2 hd2 hb0 hb1
    have t0 : ((rows.length : Int) == 0) = false := by rw [beq_eq_false_iff_ne]; omega
    have t1 : ¬ rows = [] := by rintro rfl; simp at hn0
    rcases hsq with hsq | ⟨hsq, rfl⟩
    · have hsq2 : speaker.toList.isEmpty = true := by simpa using hsq
      go_wp2_with fail
      clear hkn hkn2 hsq hsq2 t0 t1 HN
      go_loopw [66] (fun i wr => ∃ k : Nat, k ≤ rows.length ∧ i = .int .i64 k ∧ rowsGo ⟨Rn, Rt, Rh, Rl, Rw, Ra, Rb⟩ rows k = G ∧ Below (w1.heap.size + 1) W1 wr) (fun i _ => rows.length - (intOf i).toNat)
      case atStart => exact ⟨0, by omega, rfl, by rw [← HGG.out]; rfl, hc3⟩
      case round =>
        obtain ⟨k, hk, rfl, hp, hb⟩ := hrel
        have hdd := HT1.out _ hb
        clear hc3 hd3 HGG
        by_cases hlt : k < rows.length
        · obtain ⟨b, off, r, rfl, hbl, hx, hc, hok⟩ := (HR.out _ hdd).at_ hlt
          have hfr := HFX.out r (List.mem_of_getElem? hx)
          have HC := Lib.hid (fun w1 h1 h2 => evRow_calls r w1 h1 h2 hfr)
          rw [rowsGo_at _ rows k r hx] at hp
          obtain ⟨qa, qc, rr⟩ := r
          simp only [Row.enc, Row.lies] at HC hok hp
          have d0 := hc 0 _ rfl
          simp only [Nat.add_zero, Nat.mul_one] at d0
          have hbs := hb.size
          have HOK := Lib.hid (fun o => hok.later ((Below.refl wr.heap.size wr).alloc (Nat.le_refl _) o))
          have HP := Lib.hid hp
          have HA := Lib.hid (fun (o : Obj) => (HT2.out _ _ hb ((Below.refl wr.heap.size wr).alloc (Nat.le_refl _) o)))
          clear hc hx hfr hok hp
          generalize evRowErr rr = E at *
          cases hE : E != 0
          · have hE0 : E = 0 := by simpa using hE
            subst hE0
            go_wp2_with (go_at_call 69; refine (HC.out _ (HE.out _ (HT1.out _ (HA.out _))) (HOK.out _)).mono ?_; rintro e w5 ⟨rfl, hb5⟩; have hc5 := HT2.out _ _ (HA.out _) hb5; clear hb5)
            go_roundw
            case rel => exact ⟨k + 1, by omega, by go_num, by rw [← HP.out]; rfl, hc5⟩
            case measure => simp [intOf]; omega
          · rw [hE] at HP
            go_wp2_with (go_at_call 69; refine (HC.out _ (HE.out _ (HT1.out _ (HA.out _))) (HOK.out _)).mono ?_; rintro e w5 ⟨rfl, hb5⟩; have hc5 := HT2.out _ _ (HA.out _) hb5; clear hb5)
            go_ret
            exact ⟨ret_int (by rw [← HP.out]; rfl), HB.out _ (HT1.out _ hc5)⟩
        · obtain rfl : k = rows.length := by omega
          rw [rowsGo_end] at hp
          have HPl := Lib.hid (fun (a : Option Addr) (c : Nat) (w : World) (hI : Ints w a (lensOf rows)) => place_calls2 ⟨Rn, Rt, Rh, Rl, Rw, Ra, Rb⟩ a c (lensOf rows) w HRF.out hI (by rw [HLENS.out]; omega))
          simp only [hp, HLENS.out, Reg.enc] at HPl
          clear hp HT1 HFX HRF hi0 hi1 hn0 hn1
          have hdd0 := hdd
          have hbD : Below (w1.heap.size + 1) W1 wr.drew := hb.drew
          have hdD : Below (w.heap.size + 1) W0 wr.drew := hdd.drew
          have hx0 : w.heap.size < wr.heap.size := by have := hdd0.size; rw [HSZ.out] at this; omega
          have hx1 : w1.heap.size < wr.heap.size := by have := hb.size; have h9 := HW1s.out; omega
          go_wp2_with fail
          go_region_with (first
            | (go_at_call 71; refine (HLn.out _ (HE.out _ hdD) (HR.out _ hdD)).mono ?_; rintro e w6 ⟨a', c', rfl, hI, hb6⟩; have hc6 := HT2.out _ _ hbD hb6; have hd6 := HT1b.out _ hc6; clear hb6)
            | (go_at_call 70; refine (HPl.out _ _ _ hI).mono ?_; rintro e w7 ⟨v, rfl, hb7⟩; have hc7 := HT2.out _ _ hc6 hb7; have hd7 := HT1b.out _ hc7; clear hb7))
          all_goals
            go_wp2_with fail
            go_ret
            exact ⟨ret_int rfl, HB.out _ hd7⟩
    · have hsq2 : speaker.toList.isEmpty = false := by simpa using hsq
      go_wp2_with (go_at_call 63; refine (HN.out _).mono ?_; rintro e w4 ⟨rfl, rfl⟩)
      clear hkn hkn2 hsq hsq2 t0 t1 HN
      go_loopw [66] (fun i wr => ∃ k : Nat, k ≤ rows.length ∧ i = .int .i64 k ∧ rowsGo ⟨Rn, Rt, Rh, Rl, Rw, Ra, Rb⟩ rows k = G ∧ Below (w1.heap.size + 1) W1 wr) (fun i _ => rows.length - (intOf i).toNat)
      case atStart => exact ⟨0, by omega, rfl, by rw [← HGG.out]; rfl, hc3⟩
      case round =>
        obtain ⟨k, hk, rfl, hp, hb⟩ := hrel
        have hdd := HT1.out _ hb
        clear hc3 hd3 HGG
        by_cases hlt : k < rows.length
        · obtain ⟨b, off, r, rfl, hbl, hx, hc, hok⟩ := (HR.out _ hdd).at_ hlt
          have hfr := HFX.out r (List.mem_of_getElem? hx)
          have HC := Lib.hid (fun w1 h1 h2 => evRow_calls r w1 h1 h2 hfr)
          rw [rowsGo_at _ rows k r hx] at hp
          obtain ⟨qa, qc, rr⟩ := r
          simp only [Row.enc, Row.lies] at HC hok hp
          have d0 := hc 0 _ rfl
          simp only [Nat.add_zero, Nat.mul_one] at d0
          have hbs := hb.size
          have HOK := Lib.hid (fun o => hok.later ((Below.refl wr.heap.size wr).alloc (Nat.le_refl _) o))
          have HP := Lib.hid hp
          have HA := Lib.hid (fun (o : Obj) => (HT2.out _ _ hb ((Below.refl wr.heap.size wr).alloc (Nat.le_refl _) o)))
          clear hc hx hfr hok hp
          generalize evRowErr rr = E at *
          cases hE : E != 0
          · have hE0 : E = 0 := by simpa using hE
            subst hE0
            go_wp2_with (go_at_call 69; refine (HC.out _ (HE.out _ (HT1.out _ (HA.out _))) (HOK.out _)).mono ?_; rintro e w5 ⟨rfl, hb5⟩; have hc5 := HT2.out _ _ (HA.out _) hb5; clear hb5)
            go_roundw
            case rel => exact ⟨k + 1, by omega, by go_num, by rw [← HP.out]; rfl, hc5⟩
            case measure => simp [intOf]; omega
          · rw [hE] at HP
            go_wp2_with (go_at_call 69; refine (HC.out _ (HE.out _ (HT1.out _ (HA.out _))) (HOK.out _)).mono ?_; rintro e w5 ⟨rfl, hb5⟩; have hc5 := HT2.out _ _ (HA.out _) hb5; clear hb5)
            go_ret
            exact ⟨ret_int (by rw [← HP.out]; rfl), HB.out _ (HT1.out _ hc5)⟩
        · obtain rfl : k = rows.length := by omega
          rw [rowsGo_end] at hp
          have HPl := Lib.hid (fun (a : Option Addr) (c : Nat) (w : World) (hI : Ints w a (lensOf rows)) => place_calls2 ⟨Rn, Rt, Rh, Rl, Rw, Ra, Rb⟩ a c (lensOf rows) w HRF.out hI (by rw [HLENS.out]; omega))
          simp only [hp, HLENS.out, Reg.enc] at HPl
          clear hp HT1 HFX HRF hi0 hi1 hn0 hn1
          have hdd0 := hdd
          have hbD : Below (w1.heap.size + 1) W1 wr.drew := hb.drew
          have hdD : Below (w.heap.size + 1) W0 wr.drew := hdd.drew
          have hx0 : w.heap.size < wr.heap.size := by have := hdd0.size; rw [HSZ.out] at this; omega
          have hx1 : w1.heap.size < wr.heap.size := by have := hb.size; have h9 := HW1s.out; omega
          go_wp2_with fail
          go_region_with (first
            | (go_at_call 71; refine (HLn.out _ (HE.out _ hdD) (HR.out _ hdD)).mono ?_; rintro e w6 ⟨a', c', rfl, hI, hb6⟩; have hc6 := HT2.out _ _ hbD hb6; have hd6 := HT1b.out _ hc6; clear hb6)
            | (go_at_call 70; refine (HPl.out _ _ _ hI).mono ?_; rintro e w7 ⟨v, rfl, hb7⟩; have hc7 := HT2.out _ _ hc6 hb7; have hd7 := HT1b.out _ hc7; clear hb7))
          all_goals
            go_wp2_with fail
            go_ret
            exact ⟨ret_int rfl, HB.out _ hd7⟩

end Go.Proofs.YtdgakmpopgpijaaGreatDoor
