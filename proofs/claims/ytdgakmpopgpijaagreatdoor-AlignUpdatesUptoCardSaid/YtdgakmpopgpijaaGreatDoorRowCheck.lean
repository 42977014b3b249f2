/- The contract of style.Check: the first error of a row. -/
import Derived.Test.YtdgakmpopgpijaaGreatDoorRowLen
set_option linter.unusedVariables false
namespace Go.Proofs.YtdgakmpopgpijaaGreatDoor
open Go.RowKit

/-- The error of a run by itself. -/
def runErr (x : Run) : Int := if (!validB x.text) = true then 10 else if x.text.toList = [] then 4 else if ¬ x.color ≤ 6 then 12 else if (!validB x.ruby) = true then 10 else 0
/-- The error of a run behind another one. -/
def runStep (prev : Option Run) (x : Run) : Int := if (runErr x != 0) = true then runErr x else match prev with
  | none => 0
  | some p => if alikeB p x = true then 8 else 0
def runsFrom : Option Run → List Run → Int
  | _, [] => 0
  | prev, x :: l => if (runStep prev x != 0) = true then runStep prev x else runsFrom (some x) l
/-- The first error of a row. -/
def rowErr (runs : List Run) : Int := if 16 < runs.length then 9 else runsFrom none runs

def prevRun (xs : List Run) : Nat → Option Run
  | 0 => none
  | k + 1 => xs[k]?

theorem runsFrom_next (xs : List Run) (k : Nat) (x : Run) (hx : xs[k]? = some x) (prev : Option Run) (h : runStep prev x = 0) : runsFrom prev (xs.drop k) = runsFrom (prevRun xs (k + 1)) (xs.drop (k + 1)) := by
  rw [drop_at xs k x hx, runsFrom, h]
  simp [prevRun, hx]
theorem runsFrom_stop (xs : List Run) (k : Nat) (x : Run) (hx : xs[k]? = some x) (prev : Option Run) (h : (runStep prev x != 0) = true) : runsFrom prev (xs.drop k) = runStep prev x := by
  rw [drop_at xs k x hx, runsFrom, if_pos h]

theorem rowCheck_many (r : Row) (w : World) (hn : 16 < r.runs.length) :
    Calls Tryz.prog 111 #[.agg r.enc.toArray] w fun e w' => e = .returned (.int .i64 (rowErr r.runs)) ∧ Below w.heap.size w w' := by
  rw [rowErr, if_pos hn]
  have hn' : (16 : Int) < (r.runs.length : Int) := by omega
  simp only [Row.enc]
  go_enter Tryz.func111, Tryz.ntmps111
  go_wp2_with fail
  go_ret
  exact ⟨rfl, (Below.refl _ _).alloc (Nat.le_refl _) _⟩

/-- A round of Check: all that it needs, by cases of the run. -/
theorem run_cases (x : Run) : (validB x.text = false ∧ runErr x = 10) ∨ (validB x.text = true ∧ x.text.toList = [] ∧ runErr x = 4) ∨ (validB x.text = true ∧ ¬ x.text.toList = [] ∧ ¬ x.color ≤ 6 ∧ runErr x = 12) ∨
    (validB x.text = true ∧ ¬ x.text.toList = [] ∧ x.color ≤ 6 ∧ validB x.ruby = false ∧ runErr x = 10) ∨ (validB x.text = true ∧ ¬ x.text.toList = [] ∧ x.color ≤ 6 ∧ validB x.ruby = true ∧ runErr x = 0) := by
  unfold runErr
  cases h1 : validB x.text <;> by_cases h2 : x.text.toList = [] <;> by_cases h3 : x.color ≤ 6 <;> cases h4 : validB x.ruby <;> simp [h2, h3]

set_option maxHeartbeats 6400000 in
theorem rowCheck_few (r : Row) (w : World) (hE : Env w) (hr : r.lies w) (hf : r.fits) (hn : r.runs.length ≤ 16) :
    Calls Tryz.prog 111 #[.agg r.enc.toArray] w fun e w' => e = .returned (.int .i64 (rowErr r.runs)) ∧ Below w.heap.size w w' := by
  obtain ⟨a, cap, xs⟩ := r
  obtain ⟨hfx, hl, hsum⟩ := hf
  simp only [Row.lies] at hr
  simp only [Row.enc] at *
  rw [rowErr, if_neg (by omega)]
  generalize hG : runsFrom none xs = G
  have H0 := Lib.hid (show runsFrom (prevRun xs 0) (xs.drop 0) = G by rw [List.drop_zero]; exact hG)
  have hn2 : decide ((16 : Int) < (xs.length : Int)) = false := by simp; omega
  clear hG
  go_enter Tryz.func111, Tryz.ntmps111
  go_wp2_with fail
  go_loopw [12] (fun i wr => ∃ k : Nat, k ≤ xs.length ∧ i = .int .i64 k ∧ runsFrom (prevRun xs k) (xs.drop k) = G ∧ Below (w.heap.size + 1) (w.alloc (.cells #[.slice a xs.length cap] 88)) wr) (fun i _ => xs.length - (intOf i).toNat)
  case atStart => exact ⟨0, by omega, rfl, H0.out, Below.refl _ _⟩
  case round =>
    obtain ⟨k, hk, rfl, hp, hb0⟩ := hrel
    have hb := box_below hb0
    by_cases hlt : k < xs.length
    · have hRr := hr.later hb
      obtain ⟨b, off, x, rfl, hbl, hx, hc, _⟩ := hRr.at_ hlt
      have hft := hfx x (List.mem_of_getElem? hx)
      have HN := Lib.hid (runsFrom_next xs k x hx (prevRun xs k))
      have HS := Lib.hid (runsFrom_stop xs k x hx (prevRun xs k))
      have HP := Lib.hid hp
      have hcs := run_cases x
      have hfb := box_cell w #[.slice (some ⟨b, off, none⟩) xs.length cap] 88 0 _ rfl
      have HFB := Lib.hid (fun w1 (h : Below (wr.heap.size + 1) (wr.alloc (.cells x.enc.toArray 85)) w1) => hfb w1 ((hb0.alloc (by have := hb0.size; rw [World.size_alloc] at this; exact this) _).trans (h.mono (by have := hb0.size; rw [World.size_alloc] at this; omega))))
      have HB := Lib.hid (fun w1 (h : Below (wr.heap.size + 1) (wr.alloc (.cells x.enc.toArray 85)) w1) => below_alloc_trans hb _ h)
      have HB0 := Lib.hid (fun w1 (h : Below (wr.heap.size + 1) (wr.alloc (.cells x.enc.toArray 85)) w1) => (hb0.alloc (by have := hb0.size; rw [World.size_alloc] at this; exact this) _).trans (h.mono (by have := hb0.size; rw [World.size_alloc] at this; omega)))
      obtain ⟨f1, f2, f3, f4⟩ := hft
      have hsE : ∀ p, runErr x ≠ 0 → runStep p x = runErr x := fun p h => by unfold runStep; rw [if_pos (by simpa using h)]
      have HSE := Lib.hid hsE
      have hg := fun j v h => box_cell wr x.enc.toArray 85 j v h
      obtain ⟨t, c, i, u, ru⟩ := x
      have d0 := hc 0 _ rfl; have d1 := hc 1 _ rfl; have d2 := hc 2 _ rfl; have d3 := hc 3 _ rfl; have d4 := hc 4 _ rfl
      have g0 := hg 0 _ rfl; have g1 := hg 1 _ rfl; have g2 := hg 2 _ rfl; have g3 := hg 3 _ rfl; have g4 := hg 4 _ rfl
      simp only [Nat.add_zero, Run.enc] at d0 d1 d2 d3 d4 g0 g1 g2 g3 g4 HB HB0 HFB f1 f2 f3 f4 hcs
      have HE := Lib.hid (fun w1 (h : Below (wr.heap.size + 1) (wr.alloc (.cells #[.string t, .int .u8 c, .bool i, .bool u, .string ru] 85)) w1) => hE.below (HB.out w1 h) (Nat.le_refl _))
      have hq0 : Below (wr.heap.size + 1) (wr.alloc (.cells #[.string t, .int .u8 c, .bool i, .bool u, .string ru] 85)) (wr.alloc (.cells #[.string t, .int .u8 c, .bool i, .bool u, .string ru] 85)) := Below.refl _ _
      have hsz1 : (wr.alloc (.cells #[.string t, .int .u8 c, .bool i, .bool u, .string ru] 85)).heap.size = wr.heap.size + 1 := World.size_alloc _ _
      have HV := Lib.hid (fun s (hs : s.size ≤ 4000000) w1 (h : Below (wr.heap.size + 1) (wr.alloc (.cells #[.string t, .int .u8 c, .bool i, .bool u, .string ru] 85)) w1) => valid_calls s w1 hs (HE.out w1 h))
      generalize hW1 : wr.alloc (.cells #[.string t, .int .u8 c, .bool i, .bool u, .string ru] 85) = W1 at *
      have HW1 := Lib.hid hW1
      have HSZ := Lib.hid hsz1
      clear hW1 hsz1 hc hg hsE hfb hp H0 hfx
      rcases hcs with ⟨v1, he⟩ | ⟨v1, v2, he⟩ | ⟨v1, v2, v3, he⟩ | ⟨v1, v2, v3, v4, he⟩ | ⟨v1, v2, v3, v4, he⟩
      · have hst := Lib.hid (HSE.out (prevRun xs k) (by rw [he]; decide))
        have HEE := Lib.hid he
        clear he hRr
        go_wp2_with fail
        rw [HW1.out]
        refine (HV.out t f1 _ hq0).mono ?_
        rintro e w1 ⟨rfl, hb1⟩
        rw [HSZ.out] at hb1
        go_wp2_with fail
        go_ret
        exact ⟨ret_int (by rw [← HP.out, HS.out (by rw [hst.out, HEE.out]; rfl), hst.out, HEE.out]), HB.out _ hb1⟩
      · have hst := Lib.hid (HSE.out (prevRun xs k) (by rw [he]; decide))
        have HEE := Lib.hid he
        clear he hRr
        have v2' : t.toList.isEmpty = true := by simpa using v2
        go_wp2_with fail
        rw [HW1.out]
        refine (HV.out t f1 _ hq0).mono ?_
        rintro e w1 ⟨rfl, hb1⟩
        rw [HSZ.out] at hb1
        go_wp2_with fail
        go_ret
        exact ⟨ret_int (by rw [← HP.out, HS.out (by rw [hst.out, HEE.out]; rfl), hst.out, HEE.out]), HB.out _ hb1⟩
      · have hst := Lib.hid (HSE.out (prevRun xs k) (by rw [he]; decide))
        have HEE := Lib.hid he
        clear he hRr
        have v2' : t.toList.isEmpty = false := by simpa using v2
        have v3' : decide (c ≤ 6) = false := by simpa using v3
        go_wp2_with fail
        rw [HW1.out]
        refine (HV.out t f1 _ hq0).mono ?_
        rintro e w1 ⟨rfl, hb1⟩
        rw [HSZ.out] at hb1
        go_wp2_with fail
        refine (styleValid_calls c i u _).mono ?_
        rintro e w2 ⟨rfl, hb2⟩
        replace hb2 : Below (wr.heap.size + 1) W1 w2 := hb1.trans (hb2.mono (by have := hb1.size; rw [HSZ.out] at this; exact this))
        go_wp2_with fail
        go_ret
        exact ⟨ret_int (by rw [← HP.out, HS.out (by rw [hst.out, HEE.out]; rfl), hst.out, HEE.out]), HB.out _ hb2⟩
      · have hst := Lib.hid (HSE.out (prevRun xs k) (by rw [he]; decide))
        have HEE := Lib.hid he
        clear he hRr
        have v2' : t.toList.isEmpty = false := by simpa using v2
        have v3' : decide (c ≤ 6) = true := by simpa using v3
        go_wp2_with fail
        rw [HW1.out]
        refine (HV.out t f1 _ hq0).mono ?_
        rintro e w1 ⟨rfl, hb1⟩
        rw [HSZ.out] at hb1
        go_wp2_with fail
        refine (styleValid_calls c i u _).mono ?_
        rintro e w2 ⟨rfl, hb2⟩
        replace hb2 : Below (wr.heap.size + 1) W1 w2 := hb1.trans (hb2.mono (by have := hb1.size; rw [HSZ.out] at this; exact this))
        go_wp2_with fail
        refine (HV.out ru f2 _ hb2).mono ?_
        rintro e w3 ⟨rfl, hb3⟩
        replace hb3 : Below (wr.heap.size + 1) W1 w3 := hb2.trans (hb3.mono (by have := hb2.size; rw [HSZ.out] at this; exact this))
        go_wp2_with fail
        go_ret
        exact ⟨ret_int (by rw [← HP.out, HS.out (by rw [hst.out, HEE.out]; rfl), hst.out, HEE.out]), HB.out _ hb3⟩
      · have HEE := Lib.hid he
        clear he
        have v2' : t.toList.isEmpty = false := by simpa using v2
        have v3' : decide (c ≤ 6) = true := by simpa using v3
        rcases Nat.eq_zero_or_pos k with hk0 | hk0
        · have hst := Lib.hid (show runStep (prevRun xs k) ⟨t, c, i, u, ru⟩ = 0 by rw [hk0]; simp [runStep, prevRun, HEE.out])
          have hkd : decide (0 < k) = false := by simp; omega
          clear hRr hk0
          go_wp2_with fail
          rw [HW1.out]
          refine (HV.out t f1 _ hq0).mono ?_
          rintro e w1 ⟨rfl, hb1⟩
          rw [HSZ.out] at hb1
          go_wp2_with fail
          refine (styleValid_calls c i u _).mono ?_
          rintro e w2 ⟨rfl, hb2⟩
          replace hb2 : Below (wr.heap.size + 1) W1 w2 := hb1.trans (hb2.mono (by have := hb1.size; rw [HSZ.out] at this; exact this))
          go_wp2_with fail
          refine (HV.out ru f2 _ hb2).mono ?_
          rintro e w3 ⟨rfl, hb3⟩
          replace hb3 : Below (wr.heap.size + 1) W1 w3 := hb2.trans (hb3.mono (by have := hb2.size; rw [HSZ.out] at this; exact this))
          go_wp2_with fail
          go_quiet (fail)
          go_wp2_with fail
          go_roundw
          case rel => exact ⟨k + 1, by omega, by go_num, by rw [← HN.out hst.out]; exact HP.out, below_drewN (HB0.out _ hb3) _⟩
          case measure => simp [intOf]; omega
        · obtain ⟨b', off', y, hab, _, hy, hcy, _⟩ := hRr.at_ (show k - 1 < xs.length by omega)
          simp only [Option.some.injEq, Addr.mk.injEq, and_true] at hab
          obtain ⟨rfl, rfl⟩ := hab
          have hpv : prevRun xs k = some y := by
            obtain ⟨j, rfl⟩ : ∃ j, k = j + 1 := ⟨k - 1, by omega⟩
            simp only [Nat.add_sub_cancel] at hy
            simp [prevRun, hy]
          have hst : runStep (prevRun xs k) ⟨t, c, i, u, ru⟩ = if alikeB y ⟨t, c, i, u, ru⟩ = true then 8 else 0 := by
            rw [hpv]; simp [runStep, HEE.out]
          have hpc : ∀ j v, y.enc[j]? = some v → ∀ w1, Below (wr.heap.size + 1) W1 w1 → w1.cell? ⟨b, off + (k - 1) * 5 + j, none⟩ = some v := fun j v hv w1 h => by
            rw [h.cell (p := ⟨b, off + (k - 1) * 5 + j, none⟩) (by simp; omega), ← HW1.out, World.cell?_alloc_lt _ _ _ (by simpa using hbl)]
            exact hcy j v hv
          have hal := fun w => alike_calls y ⟨t, c, i, u, ru⟩ w
          obtain ⟨yt, yc, yi, yu, yr⟩ := y
          generalize alikeB ⟨yt, yc, yi, yu, yr⟩ ⟨t, c, i, u, ru⟩ = AL at *
          have p0 := hpc 0 _ rfl; have p1 := hpc 1 _ rfl; have p2 := hpc 2 _ rfl; have p3 := hpc 3 _ rfl; have p4 := hpc 4 _ rfl
          simp only [Nat.add_zero, Run.enc] at p0 p1 p2 p3 p4 hal
          have HAL := Lib.hid hal
          have hfb := HFB.out
          have hkd : decide (0 < k) = true := by simp; omega
          have hk1 : 1 ≤ k := hk0
          have hkz : (1 : Int) ≤ (k : Int) := by omega
          have hkl : (k : Int) - 1 < (xs.length : Int) := by omega
          have hwr : IntKind.i64.wrap ((k : Int) - 1) = (k : Int) - 1 := IntWalk.i64_in _ (by omega)
          have hkn : ((k : Int) - 1).toNat = k - 1 := by omega
          clear hpc hpv hRr hcy hy hk0 hal
          cases AL
          · rw [if_neg (by decide)] at hst
            have HST := Lib.hid hst
            clear hst
            go_wp2_with fail
            rw [HW1.out]
            refine (HV.out t f1 _ hq0).mono ?_
            rintro e w1 ⟨rfl, hb1⟩
            rw [HSZ.out] at hb1
            go_wp2_with fail
            refine (styleValid_calls c i u _).mono ?_
            rintro e w2 ⟨rfl, hb2⟩
            replace hb2 : Below (wr.heap.size + 1) W1 w2 := hb1.trans (hb2.mono (by have := hb1.size; rw [HSZ.out] at this; exact this))
            go_wp2_with fail
            refine (HV.out ru f2 _ hb2).mono ?_
            rintro e w3 ⟨rfl, hb3⟩
            replace hb3 : Below (wr.heap.size + 1) W1 w3 := hb2.trans (hb3.mono (by have := hb2.size; rw [HSZ.out] at this; exact this))
            go_wp2_with fail
            have hb3d : Below (wr.heap.size + 1) W1 w3.drew := hb3.drew
            go_region_with (go_at_call 136; refine (HAL.out _).mono ?_; rintro e w4 ⟨rfl, hb4⟩; replace hb4 : Below (wr.heap.size + 1) W1 w4 := hb3d.trans (hb4.mono (by have := hb3d.size; rw [HSZ.out] at this; exact this)))
            all_goals
              go_wp2_with fail
              go_roundw
              case rel => exact ⟨k + 1, by omega, by go_num, by rw [← HN.out HST.out]; exact HP.out, HB0.out _ hb4⟩
              case measure => simp [intOf]; omega
          · rw [if_pos rfl] at hst
            have HST := Lib.hid hst
            clear hst
            go_wp2_with fail
            rw [HW1.out]
            refine (HV.out t f1 _ hq0).mono ?_
            rintro e w1 ⟨rfl, hb1⟩
            rw [HSZ.out] at hb1
            go_wp2_with fail
            refine (styleValid_calls c i u _).mono ?_
            rintro e w2 ⟨rfl, hb2⟩
            replace hb2 : Below (wr.heap.size + 1) W1 w2 := hb1.trans (hb2.mono (by have := hb1.size; rw [HSZ.out] at this; exact this))
            go_wp2_with fail
            refine (HV.out ru f2 _ hb2).mono ?_
            rintro e w3 ⟨rfl, hb3⟩
            replace hb3 : Below (wr.heap.size + 1) W1 w3 := hb2.trans (hb3.mono (by have := hb2.size; rw [HSZ.out] at this; exact this))
            go_wp2_with fail
            have hb3d : Below (wr.heap.size + 1) W1 w3.drew := hb3.drew
            go_region_with (go_at_call 136; refine (HAL.out _).mono ?_; rintro e w4 ⟨rfl, hb4⟩; replace hb4 : Below (wr.heap.size + 1) W1 w4 := hb3d.trans (hb4.mono (by have := hb3d.size; rw [HSZ.out] at this; exact this)))
            all_goals
              go_wp2_with fail
              go_ret
              exact ⟨ret_int (by rw [← HP.out, HS.out (by rw [HST.out]; rfl), HST.out]), HB.out _ hb4⟩
    · obtain rfl : k = xs.length := by omega
      rw [List.drop_length] at hp
      have HP := Lib.hid hp
      clear hp H0
      go_wp2_with fail
      go_ret
      exact ⟨ret_int (by rw [← HP.out]; cases prevRun xs xs.length <;> rfl), hb⟩

theorem rowCheck_calls (r : Row) (w : World) (hE : Env w) (hr : r.lies w) (hf : r.fits) :
    Calls Tryz.prog 111 #[.agg r.enc.toArray] w fun e w' => e = .returned (.int .i64 (rowErr r.runs)) ∧ Below w.heap.size w w' := by
  by_cases hn : 16 < r.runs.length
  · exact rowCheck_many r w hn
  · exact rowCheck_few r w hE hr hf (by omega)

end Go.Proofs.YtdgakmpopgpijaaGreatDoor
