/- The contract of the reference's Formed: whether links are in form. -/
import Derived.Test.YtdgakmpopgpijaaGreatDoorRef
import Derived.Test.YtdgakmpopgpijaaGreatDoorStays
import Derived.Outline
set_option linter.unusedVariables false
namespace Go.Proofs.YtdgakmpopgpijaaGreatDoor
open Go.RowKit

set_option maxRecDepth 100000 in
set_option maxHeartbeats 6400000 in
theorem formed_calls (a : Option Addr) (cap : Nat) (xs : List Lk) (w : World) (hr : LksAt w a xs) (hf : ∀ x ∈ xs, x.fits) (hl : xs.length ≤ 4000000) (hcap : xs.length ≤ cap) :
    Calls Tryz.prog 32 #[.slice a xs.length cap] w fun e w' => e = .returned (.bool (formB xs)) ∧ Below w.heap.size w w' := by
  generalize hG : formB xs = G
  have H0 := Lib.hid (show formGo xs 0 (xs.length - 0) = G from hG)
  clear hG
  go_enter Tryz.func32, Tryz.ntmps32
  go_wp2_with fail
  go_loopw [9] (fun i wr => ∃ k : Nat, k ≤ xs.length ∧ i = .int .i64 k ∧ formGo xs k (xs.length - k) = G ∧ Below w.heap.size w wr) (fun i _ => xs.length - (intOf i).toNat)
  case atStart => exact ⟨0, by omega, rfl, H0.out, Below.refl _ _⟩
  case round =>
    obtain ⟨k, hk, rfl, hp, hb⟩ := hrel
    by_cases hlt : k < xs.length
    · have hRr := hr.later hb
      obtain ⟨b, off, x, rfl, hbl, hx, hc, _⟩ := hRr.at_ hlt
      have hft := hf x (List.mem_of_getElem? hx)
      rw [formGo_at xs k x hx] at hp
      have HP := Lib.hid hp
      have hcs := form_cases (aheadOf xs k) x (seenAt xs k x.tgt)
      obtain ⟨i1, i2, i3, i4⟩ := hft
      have hwsz := hb.size
      have hgx := fun j v h => box_cell wr x.enc.toArray 49 j v h
      have hq0 : Below (wr.heap.size + 1) (wr.alloc (.cells x.enc.toArray 49)) (wr.alloc (.cells x.enc.toArray 49)) := Below.refl _ _
      have hqq : ∀ q, Below (wr.heap.size + 1) (wr.alloc (.cells x.enc.toArray 49)) ((wr.alloc (.cells x.enc.toArray 49)).drewN q) := fun q => below_drewN (Below.refl _ _) q
      have HBW := Lib.hid (fun w1 (h : Below (wr.heap.size + 1) (wr.alloc (.cells x.enc.toArray 49)) w1) => (hb.alloc hwsz _).trans (h.mono (by omega)))
      have hpv : (k = 0 ∧ aheadOf xs k = none) ∨ (∃ y, 1 ≤ k ∧ aheadOf xs k = some y ∧ ∀ w1, Below (wr.heap.size + 1) (wr.alloc (.cells x.enc.toArray 49)) w1 → w1.cell? ⟨b, off + (k - 1) * 3, none⟩ = some (.int .i64 y.tpl)) := by
        rcases Nat.eq_zero_or_pos k with rfl | hk0
        · exact .inl ⟨rfl, rfl⟩
        · obtain ⟨b', off', y, hab, _, hy, hcy, _⟩ := hRr.at_ (show k - 1 < xs.length by omega)
          simp only [Option.some.injEq, Addr.mk.injEq, and_true] at hab
          obtain ⟨rfl, rfl⟩ := hab
          refine .inr ⟨y, hk0, ?_, fun w1 h => ?_⟩
          · obtain ⟨j, rfl⟩ : ∃ j, k = j + 1 := ⟨k - 1, by omega⟩
            simpa [aheadOf] using hy
          · rw [h.cell (p := ⟨b, off + (k - 1) * 3, none⟩) (by simp; omega), World.cell?_alloc_lt _ _ _ (by simpa using hbl)]
            exact hcy 0 _ rfl
      have HR0 := Lib.hid hr
      have HSE := Lib.hid (seenAt_iff xs x.tgt k (by omega))
      clear hRr hp hx hf
      generalize hsn : seenAt xs k x.tgt = S at *
      have HGB := Lib.hid (fun (h : lkBad (aheadOf xs k) x ∨ S = true) => (show false = G by rw [← HP.out, if_pos h]))
      have HGG := Lib.hid (fun (h : ¬ (lkBad (aheadOf xs k) x ∨ S = true)) => (show formGo xs (k + 1) (xs.length - (k + 1)) = G by rw [← HP.out, if_neg h]))
      generalize aheadOf xs k = pv at *
      clear hsn HP
      obtain ⟨tpl, tgt, st⟩ := x
      have d0 := hc 0 _ rfl; have d1 := hc 1 _ rfl; have d2 := hc 2 _ rfl
      have g0 := hgx 0 _ rfl; have g1 := hgx 1 _ rfl; have g2 := hgx 2 _ rfl
      simp only [Nat.add_zero, Lk.enc] at d0 d1 d2 g0 g1 g2 hq0 hqq HBW hpv i1 i2 i3 i4 hcs HGB HGG HSE
      have hsz : (wr.alloc (.cells #[.int .i64 tpl, .int .i64 tgt, .int .u8 st] 49)).heap.size = wr.heap.size + 1 := World.size_alloc _ _
      generalize hW1 : wr.alloc (.cells #[.int .i64 tpl, .int .i64 tgt, .int .u8 st] 49) = W1 at *
      have HW1 := Lib.hid hW1
      have HSZ := Lib.hid hsz
      clear hc hgx hW1 hsz H0
      have HQB := Lib.hid (fun q => HBW.out _ (hqq q))
      have hcell : (k = 0 ∧ pv = none ∧ decide (0 < k) = false) ∨ (∃ y, 1 ≤ k ∧ pv = some y ∧ decide (0 < k) = true ∧ (1 : Int) ≤ (k : Int) ∧ (k : Int) - 1 < (xs.length : Int) ∧ IntKind.i64.wrap ((k : Int) - 1) = (k : Int) - 1 ∧ ((k : Int) - 1).toNat = k - 1 ∧ ∀ w1, Below (wr.heap.size + 1) W1 w1 → w1.cell? ⟨b, off + (k - 1) * 3, none⟩ = some (.int .i64 y.tpl)) := by
        rcases hpv with ⟨h1, h2⟩ | ⟨y, h1, h2, h3⟩
        · exact .inl ⟨h1, h2, by simp; omega⟩
        · exact .inr ⟨y, h1, h2, by simp; omega, by omega, by omega, IntWalk.i64_in _ (by omega), by omega, h3⟩
      clear hpv
      rcases hcs with ⟨hbad, h1 | ⟨h1, h2⟩ | ⟨h1, h2, h3⟩ | ⟨h1, h2, h3, h4⟩ | ⟨h1, h2, h3, h4, h5⟩⟩ | ⟨h1, h2, h3, h4, h5, hcs⟩
      · have HV := Lib.hid (HGB.out hbad)
        clear HGB HGG hcell hbad
        go_wp2_with fail
        rw [HW1.out]
        go_quiet (fail)
        go_wp2_with fail
        go_ret
        exact ⟨by rw [← HV.out]; rfl, HQB.out _⟩
      · have HV := Lib.hid (HGB.out hbad)
        have h1d : decide (tpl < 1) = false := by simp; omega
        clear HGB HGG hcell hbad
        go_wp2_with fail
        rw [HW1.out]
        go_quiet (fail)
        go_wp2_with fail
        go_ret
        exact ⟨by rw [← HV.out]; rfl, HQB.out _⟩
      · have HV := Lib.hid (HGB.out hbad)
        have h1d : decide (tpl < 1) = false := by simp; omega
        have h2d : decide (1099511627776 < tpl) = false := by simp; omega
        rcases hcell with ⟨hk0, rfl, hkd⟩ | ⟨y, hk1, rfl, hkd, hkz, hkl, hwr, hkn, p0⟩
        · exact absurd h3 (by simp [lkOrder])
        have h3d : decide (tpl ≤ y.tpl) = true := by simpa [lkOrder] using h3
        generalize y.tpl = ty at *
        clear HGB HGG hbad h3
        go_wp2_with fail
        rw [HW1.out]
        go_quiet (fail)
        go_wp2_with fail
        go_ret
        exact ⟨by rw [← HV.out]; rfl, HQB.out _⟩
      all_goals
        have h1d : decide (tpl < 1) = false := by simp; omega
        have h2d : decide (1099511627776 < tpl) = false := by simp; omega
        have hprev : (decide (0 < k) = false) ∨ (∃ ty : Int, (decide (tpl ≤ ty) = false) ∧ 1 ≤ k ∧ decide (0 < k) = true ∧ (1 : Int) ≤ (k : Int) ∧ (k : Int) - 1 < (xs.length : Int) ∧ IntKind.i64.wrap ((k : Int) - 1) = (k : Int) - 1 ∧ ((k : Int) - 1).toNat = k - 1 ∧ ∀ w1, Below (wr.heap.size + 1) W1 w1 → w1.cell? ⟨b, off + (k - 1) * 3, none⟩ = some (.int .i64 ty)) := by
          rcases hcell with ⟨_, rfl, hkd⟩ | ⟨y, hk1, rfl, hkd, hkz, hkl, hwr, hkn, p0⟩
          · exact .inl hkd
          · exact .inr ⟨y.tpl, by simpa [lkOrder] using h3, hk1, hkd, hkz, hkl, hwr, hkn, p0⟩
        clear hcell h3
      · have HV := Lib.hid (HGB.out hbad)
        have h4d : decide (st < 1) = true := by simp; omega
        clear HGB HGG hbad
        rcases hprev with hkd | ⟨ty, h3d, hk1, hkd, hkz, hkl, hwr, hkn, p0⟩
        all_goals
          go_wp2_with fail
          rw [HW1.out]
          go_quiet (fail)
          go_wp2_with fail
          go_ret
          exact ⟨by rw [← HV.out]; rfl, HQB.out _⟩
      · have HV := Lib.hid (HGB.out hbad)
        have h4d : decide (st < 1) = false := by simp; omega
        have h5d : decide (4 < st) = true := by simp; omega
        clear HGB HGG hbad
        rcases hprev with hkd | ⟨ty, h3d, hk1, hkd, hkz, hkl, hwr, hkn, p0⟩
        all_goals
          go_wp2_with fail
          rw [HW1.out]
          go_quiet (fail)
          go_wp2_with fail
          go_ret
          exact ⟨by rw [← HV.out]; rfl, HQB.out _⟩
      have h4d : decide (st < 1) = false := by simp; omega
      have h5d : decide (4 < st) = false := by simp; omega
      rcases hcs with ⟨hbad, ⟨rfl, h6⟩ | ⟨h6, rfl⟩⟩ | ⟨rfl, rfl, hcs⟩ | ⟨h6, h7, ⟨hbad, h8⟩ | ⟨hbad, h8, h9⟩ | hcs⟩
      · have HV := Lib.hid (HGB.out hbad)
        have h6d : (st == 3) = false := by simpa using h6
        clear HGB HGG hbad h6
        rcases hprev with hkd | ⟨ty, h3d, hk1, hkd, hkz, hkl, hwr, hkn, p0⟩
        all_goals
          go_wp2_with fail
          rw [HW1.out]
          go_quiet (fail)
          go_wp2_with fail
          go_ret
          exact ⟨by rw [← HV.out]; rfl, HQB.out _⟩
      · have HV := Lib.hid (HGB.out hbad)
        have h6d : (tgt == 0) = false := by simpa using h6
        clear HGB HGG hbad h6
        rcases hprev with hkd | ⟨ty, h3d, hk1, hkd, hkz, hkl, hwr, hkn, p0⟩
        all_goals
          go_wp2_with fail
          rw [HW1.out]
          go_quiet (fail)
          go_wp2_with fail
          go_ret
          exact ⟨by rw [← HV.out]; rfl, HQB.out _⟩
      · skip
        rcases hprev with hkd | ⟨ty, h3d, hk1, hkd, hkz, hkl, hwr, hkn, p0⟩
        all_goals
          go_wp2_with fail
          rw [HW1.out]
          go_quiet (fail)
          go_wp2_with fail
          obtain ⟨wo, rfl⟩ : ∃ wo : World, wo = wr := ⟨_, rfl⟩
          go_loopw [68] (fun i wi => ∃ j : Nat, j ≤ k ∧ i = .int .i64 j ∧ True ∧ Below (wo.heap.size + 1) W1 wi) (fun i _ => k - (intOf i).toNat)
          case atStart => exact ⟨0, by omega, rfl, trivial, hqq _⟩
          case round =>
            obtain ⟨j, hj, rfl, hno, hbi⟩ := hrel
            have hbw := HBW.out _ hbi
            have hsi := hbi.size
            rw [HSZ.out] at hsi
            by_cases hlj : j < k
            · obtain ⟨b', off', y, hab, hbl', hy, hcy, _⟩ := (HR0.out.later hbw).at_ (show j < xs.length by omega)
              simp only [Option.some.injEq, Addr.mk.injEq, and_true] at hab
              obtain ⟨rfl, rfl⟩ := hab
              have hba : ∀ o, Below (wo.heap.size + 1) W1 (wr.alloc o) := fun o => hbi.alloc (by omega) o
              obtain ⟨yt, yg, ys⟩ := y
              have m0 := hcy 0 _ rfl; have m1 := hcy 1 _ rfl; have m2 := hcy 2 _ rfl
              simp only [Nat.add_zero] at m0 m1 m2
              clear hcy hno hy
              clear HGB HGG HSE hcs
              go_wp2_with fail
              go_roundw
              case rel => exact ⟨j + 1, by omega, by go_num, trivial, hba _⟩
              case measure => simp [intOf]; omega
            · obtain rfl : j = k := by omega
              have HV := Lib.hid (show formGo xs (j + 1) (xs.length - (j + 1)) = G by
                rcases hcs with ⟨_, hS⟩ | ⟨hg, _⟩
                · obtain ⟨j', y, h1, h2, h3, h4⟩ := HSE.out.1 hS
                  exact absurd h4 h3
                · exact HGG.out hg)
              clear HGB HGG HSE hcs hno
              go_wp2_with fail
              go_roundw
              case rel => exact ⟨j + 1, by omega, by go_num, HV.out, hbw⟩
              case measure => simp [intOf]; omega
      all_goals
        have h6d : (tgt == 0) = false := by simpa using h6
        have h6e : (tgt != 0) = true := by simpa using h6
        have h7d : (st == 3) = false := by simpa using h7
      · have HV := Lib.hid (HGB.out hbad)
        clear HGB HGG hbad h6 h7
        rcases hprev with hkd | ⟨ty, h3d, hk1, hkd, hkz, hkl, hwr, hkn, p0⟩
        all_goals
          go_wp2_with fail
          rw [HW1.out]
          go_quiet (fail)
          go_wp2_with fail
          go_ret
          exact ⟨by rw [← HV.out]; rfl, HQB.out _⟩
      · have HV := Lib.hid (HGB.out hbad)
        clear HGB HGG hbad h6 h7
        rcases hprev with hkd | ⟨ty, h3d, hk1, hkd, hkz, hkl, hwr, hkn, p0⟩
        all_goals
          go_wp2_with fail
          rw [HW1.out]
          go_quiet (fail)
          go_wp2_with fail
          go_ret
          exact ⟨by rw [← HV.out]; rfl, HQB.out _⟩
      · clear h7
        rcases hprev with hkd | ⟨ty, h3d, hk1, hkd, hkz, hkl, hwr, hkn, p0⟩
        all_goals
          go_wp2_with fail
          rw [HW1.out]
          go_quiet (fail)
          go_wp2_with fail
          obtain ⟨wo, rfl⟩ : ∃ wo : World, wo = wr := ⟨_, rfl⟩
          go_loopw [68] (fun i wi => ∃ j : Nat, j ≤ k ∧ i = .int .i64 j ∧ (∀ (j' : Nat) (y : Lk), j' < j → xs[j']? = some y → ¬ y.tgt = tgt) ∧ Below (wo.heap.size + 1) W1 wi) (fun i _ => k - (intOf i).toNat)
          case atStart => exact ⟨0, by omega, rfl, fun j' y h => by omega, hqq _⟩
          case round =>
            obtain ⟨j, hj, rfl, hno, hbi⟩ := hrel
            have hbw := HBW.out _ hbi
            have hsi := hbi.size
            rw [HSZ.out] at hsi
            by_cases hlj : j < k
            · obtain ⟨b', off', y, hab, hbl', hy, hcy, _⟩ := (HR0.out.later hbw).at_ (show j < xs.length by omega)
              simp only [Option.some.injEq, Addr.mk.injEq, and_true] at hab
              obtain ⟨rfl, rfl⟩ := hab
              have HNO := Lib.hid hno
              have HYY := Lib.hid hy
              have hba : ∀ o, Below (wo.heap.size + 1) W1 (wr.alloc o) := fun o => hbi.alloc (by omega) o
              obtain ⟨yt, yg, ys⟩ := y
              have m0 := hcy 0 _ rfl; have m1 := hcy 1 _ rfl; have m2 := hcy 2 _ rfl
              simp only [Nat.add_zero] at m0 m1 m2
              clear hcy hno hy
              by_cases hyt : yg = tgt
              · have HV := Lib.hid (HGB.out (.inr (HSE.out.2 ⟨j, _, hlj, HYY.out, by simpa [hyt] using h6, hyt⟩)))
                subst hyt
                clear HGB HGG HSE hcs HNO HYY
                go_wp2_with fail
                go_ret
                exact ⟨by rw [← HV.out]; rfl, HBW.out _ (hba _)⟩
              · have hyd : (yg == tgt) = false := by simpa using hyt
                clear HGB HGG HSE hcs
                go_wp2_with fail
                go_roundw
                case rel => exact ⟨j + 1, by omega, by go_num, fun j' y h1 h2 => by
                  by_cases hjj : j' = j
                  · subst hjj; rw [HYY.out] at h2; obtain rfl := Option.some.inj h2; exact hyt
                  · exact HNO.out j' y (by omega) h2, hba _⟩
                case measure => simp [intOf]; omega
            · obtain rfl : j = k := by omega
              have HV := Lib.hid (show formGo xs (j + 1) (xs.length - (j + 1)) = G by
                rcases hcs with ⟨_, _, _, hS⟩ | ⟨hg, _, _, _⟩
                · obtain ⟨j', y, h1, h2, h3, h4⟩ := HSE.out.1 hS
                  exact absurd h4 (hno j' y h1 h2)
                · exact HGG.out hg)
              clear HGB HGG HSE hcs hno
              go_wp2_with fail
              go_roundw
              case rel => exact ⟨j + 1, by omega, by go_num, HV.out, hbw⟩
              case measure => simp [intOf]; omega
    · obtain rfl : k = xs.length := by omega
      rw [formGo_end] at hp
      have HP := Lib.hid hp
      clear hp H0
      go_wp2_with fail
      go_ret
      exact ⟨by rw [← HP.out]; rfl, hb⟩

end Go.Proofs.YtdgakmpopgpijaaGreatDoor
