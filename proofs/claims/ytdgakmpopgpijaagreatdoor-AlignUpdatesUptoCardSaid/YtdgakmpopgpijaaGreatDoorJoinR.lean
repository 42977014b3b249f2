/- The contracts of the reference of links: Find, aimed, Formed; what Set and Drop answer, said of lists. -/
import Derived.Test.YtdgakmpopgpijaaGreatDoorCheck2
import Derived.Test.YtdgakmpopgpijaaGreatDoorStays
import Derived.Outline
set_option linter.unusedVariables false
/- The contracts of the reference's Find and aimed: where a link of a template lies; whether an event is a link's target. -/
namespace Go.Proofs.YtdgakmpopgpijaaGreatDoor
open Go.RowKit

theorem posFrom_at {α : Type} (p : α → Bool) (xs : List α) (k : Nat) (x : α) (h : xs[k]? = some x) : posFrom p (xs.drop k) k = if p x = true then (k : Int) else posFrom p (xs.drop (k + 1)) (k + 1) := by
  rw [drop_at xs k x h, posFrom]

set_option maxHeartbeats 800000 in
theorem refFind_calls (a : Option Addr) (cap : Nat) (xs : List Lk) (id : Int) (w : World) (hr : LksAt w a xs) (hl : xs.length ≤ 4000000) :
    Calls Tryz.prog 15 #[.slice a xs.length cap, .int .i64 id] w fun e w' => e = .returned (.int .i64 (posOf (hasTpl id) xs)) ∧ Below w.heap.size w w' := by
  generalize hG : posOf (hasTpl id) xs = G
  have H0 := Lib.hid (show posFrom (hasTpl id) (xs.drop 0) 0 = G from hG)
  clear hG
  go_enter Tryz.func15, Tryz.ntmps15
  go_wp2_with fail
  go_loopw [9] (fun i wr => ∃ k : Nat, k ≤ xs.length ∧ i = .int .i64 k ∧ posFrom (hasTpl id) (xs.drop k) k = G ∧ Below w.heap.size w wr) (fun i _ => xs.length - (intOf i).toNat)
  case atStart => exact ⟨0, by omega, rfl, H0.out, Below.refl _ _⟩
  case round =>
    obtain ⟨k, hk, rfl, hp, hb⟩ := hrel
    by_cases hlt : k < xs.length
    · obtain ⟨b, off, x, rfl, hbl, hx, hc, _⟩ := (hr.later hb).at_ hlt
      rw [posFrom_at _ xs k x hx] at hp
      obtain ⟨tpl, tgt, st⟩ := x
      have d0 := hc 0 _ rfl; have d1 := hc 1 _ rfl; have d2 := hc 2 _ rfl
      simp only [Nat.add_zero] at d0 d1 d2
      have HB := Lib.hid (fun o => hb.alloc hb.size o)
      by_cases ht : tpl = id
      · subst ht
        rw [if_pos (by simp [hasTpl])] at hp
        have HP := Lib.hid hp
        clear hc hx hp H0
        go_wp2_with fail
        go_ret
        exact ⟨ret_int HP.out, HB.out _⟩
      · have ht' : (tpl == id) = false := by simpa using ht
        rw [if_neg (by simp [hasTpl, ht])] at hp
        have HP := Lib.hid hp
        clear hc hx hp H0 ht
        go_wp2_with fail
        go_roundw
        case rel => exact ⟨k + 1, by omega, by go_num, HP.out, HB.out _⟩
        case measure => simp [intOf]; omega
    · obtain rfl : k = xs.length := by omega
      rw [List.drop_length] at hp
      have HP := Lib.hid hp
      clear hp H0
      go_wp2_with fail
      go_ret
      exact ⟨ret_int (by rw [← HP.out]; rfl), hb⟩

def aimB (id : Int) (xs : List Lk) : Bool := xs.any (fun x => x.tgt == id)
set_option maxHeartbeats 800000 in
theorem aimed_calls (a : Option Addr) (cap : Nat) (xs : List Lk) (id : Int) (w : World) (hr : LksAt w a xs) (hl : xs.length ≤ 4000000) :
    Calls Tryz.prog 44 #[.slice a xs.length cap, .int .i64 id] w fun e w' => e = .returned (.bool (aimB id xs)) ∧ Below w.heap.size w w' := by
  generalize hG : aimB id xs = G
  have H0 := Lib.hid (show aimB id (xs.drop 0) = G from hG)
  clear hG
  go_enter Tryz.func44, Tryz.ntmps44
  go_wp2_with fail
  go_loopw [9] (fun i wr => ∃ k : Nat, k ≤ xs.length ∧ i = .int .i64 k ∧ aimB id (xs.drop k) = G ∧ Below w.heap.size w wr) (fun i _ => xs.length - (intOf i).toNat)
  case atStart => exact ⟨0, by omega, rfl, H0.out, Below.refl _ _⟩
  case round =>
    obtain ⟨k, hk, rfl, hp, hb⟩ := hrel
    by_cases hlt : k < xs.length
    · obtain ⟨b, off, x, rfl, hbl, hx, hc, _⟩ := (hr.later hb).at_ hlt
      rw [drop_at xs k x hx, aimB, List.any_cons] at hp
      obtain ⟨tpl, tgt, st⟩ := x
      have d0 := hc 0 _ rfl; have d1 := hc 1 _ rfl; have d2 := hc 2 _ rfl
      simp only [Nat.add_zero] at d0 d1 d2
      have HB := Lib.hid (fun o => hb.alloc hb.size o)
      simp only at hp
      by_cases ht : tgt = id
      · have HP := Lib.hid hp
        subst ht
        clear hc hx hp H0
        go_wp2_with fail
        go_ret
        exact ⟨by rw [← HP.out]; simp, HB.out _⟩
      · have ht' : (tgt == id) = false := by simpa using ht
        rw [ht', Bool.false_or] at hp
        have HP := Lib.hid hp
        clear hc hx hp H0 ht
        go_wp2_with fail
        go_roundw
        case rel => exact ⟨k + 1, by omega, by go_num, HP.out, HB.out _⟩
        case measure => simp [intOf]; omega
    · obtain rfl : k = xs.length := by omega
      rw [List.drop_length] at hp
      have HP := Lib.hid hp
      clear hp H0
      go_wp2_with fail
      go_ret
      exact ⟨by rw [← HP.out]; rfl, hb⟩

end Go.Proofs.YtdgakmpopgpijaaGreatDoor

/- The contract of the reference's Formed: whether links are in form. -/
namespace Go.Proofs.YtdgakmpopgpijaaGreatDoor
open Go.RowKit

set_option maxRecDepth 100000 in
set_option maxHeartbeats 6400000 in
theorem formed_calls (a : Option Addr) (cap : Nat) (xs : List Lk) (w : World) (hr : LksAt w a xs) (hf : ∀ x ∈ xs, x.fits) (hl : xs.length ≤ 4000000) (hcap : xs.length ≤ cap) :
    Calls Tryz.prog 32 #[.slice a xs.length cap] w fun e w' => e = .returned (.bool (formB xs)) ∧ Below w.heap.size w w' := by
  generalize hG : formB xs = G
  have H0 := Lib.hid (show formGo xs 0 (xs.length - 0) = G from hG)
  clear hG
  go_enter Tryz.func32, Tryz.ntmps32
  go_wp2_with fail
  go_loopw [9] (fun i wr => ∃ k : Nat, k ≤ xs.length ∧ i = .int .i64 k ∧ formGo xs k (xs.length - k) = G ∧ Below w.heap.size w wr) (fun i _ => xs.length - (intOf i).toNat)
  case atStart => exact ⟨0, by omega, rfl, H0.out, Below.refl _ _⟩
  case round =>
    obtain ⟨k, hk, rfl, hp, hb⟩ := hrel
    by_cases hlt : k < xs.length
    · have hRr := hr.later hb
      obtain ⟨b, off, x, rfl, hbl, hx, hc, _⟩ := hRr.at_ hlt
      have hft := hf x (List.mem_of_getElem? hx)
      rw [formGo_at xs k x hx] at hp
      have HP := Lib.hid hp
      have hcs := form_cases (aheadOf xs k) x (seenAt xs k x.tgt)
      obtain ⟨i1, i2, i3, i4⟩ := hft
      have hwsz := hb.size
      have hgx := fun j v h => box_cell wr x.enc.toArray 49 j v h
      have hq0 : Below (wr.heap.size + 1) (wr.alloc (.cells x.enc.toArray 49)) (wr.alloc (.cells x.enc.toArray 49)) := Below.refl _ _
      have hqq : ∀ q, Below (wr.heap.size + 1) (wr.alloc (.cells x.enc.toArray 49)) ((wr.alloc (.cells x.enc.toArray 49)).drewN q) := fun q => below_drewN (Below.refl _ _) q
      have HBW := Lib.hid (fun w1 (h : Below (wr.heap.size + 1) (wr.alloc (.cells x.enc.toArray 49)) w1) => (hb.alloc hwsz _).trans (h.mono (by omega)))
      have hpv : (k = 0 ∧ aheadOf xs k = none) ∨ (∃ y, 1 ≤ k ∧ aheadOf xs k = some y ∧ ∀ w1, Below (wr.heap.size + 1) (wr.alloc (.cells x.enc.toArray 49)) w1 → w1.cell? ⟨b, off + (k - 1) * 3, none⟩ = some (.int .i64 y.tpl)) := by
        rcases Nat.eq_zero_or_pos k with rfl | hk0
        · exact .inl ⟨rfl, rfl⟩
        · obtain ⟨b', off', y, hab, _, hy, hcy, _⟩ := hRr.at_ (show k - 1 < xs.length by omega)
          simp only [Option.some.injEq, Addr.mk.injEq, and_true] at hab
          obtain ⟨rfl, rfl⟩ := hab
          refine .inr ⟨y, hk0, ?_, fun w1 h => ?_⟩
          · obtain ⟨j, rfl⟩ : ∃ j, k = j + 1 := ⟨k - 1, by omega⟩
            simpa [aheadOf] using hy
          · rw [h.cell (p := ⟨b, off + (k - 1) * 3, none⟩) (by simp; omega), World.cell?_alloc_lt _ _ _ (by simpa using hbl)]
            exact hcy 0 _ rfl
      have HR0 := Lib.hid hr
      have HSE := Lib.hid (seenAt_iff xs x.tgt k (by omega))
      clear hRr hp hx hf
      generalize hsn : seenAt xs k x.tgt = S at *
      have HGB := Lib.hid (fun (h : lkBad (aheadOf xs k) x ∨ S = true) => (show false = G by rw [← HP.out, if_pos h]))
      have HGG := Lib.hid (fun (h : ¬ (lkBad (aheadOf xs k) x ∨ S = true)) => (show formGo xs (k + 1) (xs.length - (k + 1)) = G by rw [← HP.out, if_neg h]))
      generalize aheadOf xs k = pv at *
      clear hsn HP
      obtain ⟨tpl, tgt, st⟩ := x
      have d0 := hc 0 _ rfl; have d1 := hc 1 _ rfl; have d2 := hc 2 _ rfl
      have g0 := hgx 0 _ rfl; have g1 := hgx 1 _ rfl; have g2 := hgx 2 _ rfl
      simp only [Nat.add_zero, Lk.enc] at d0 d1 d2 g0 g1 g2 hq0 hqq HBW hpv i1 i2 i3 i4 hcs HGB HGG HSE
      have hsz : (wr.alloc (.cells #[.int .i64 tpl, .int .i64 tgt, .int .u8 st] 49)).heap.size = wr.heap.size + 1 := World.size_alloc _ _
      generalize hW1 : wr.alloc (.cells #[.int .i64 tpl, .int .i64 tgt, .int .u8 st] 49) = W1 at *
      have HW1 := Lib.hid hW1
      have HSZ := Lib.hid hsz
      clear hc hgx hW1 hsz H0
      have HQB := Lib.hid (fun q => HBW.out _ (hqq q))
      have hcell : (k = 0 ∧ pv = none ∧ decide (0 < k) = false) ∨ (∃ y, 1 ≤ k ∧ pv = some y ∧ decide (0 < k) = true ∧ (1 : Int) ≤ (k : Int) ∧ (k : Int) - 1 < (xs.length : Int) ∧ IntKind.i64.wrap ((k : Int) - 1) = (k : Int) - 1 ∧ ((k : Int) - 1).toNat = k - 1 ∧ ∀ w1, Below (wr.heap.size + 1) W1 w1 → w1.cell? ⟨b, off + (k - 1) * 3, none⟩ = some (.int .i64 y.tpl)) := by
        rcases hpv with ⟨h1, h2⟩ | ⟨y, h1, h2, h3⟩
        · exact .inl ⟨h1, h2, by simp; omega⟩
        · exact .inr ⟨y, h1, h2, by simp; omega, by omega, by omega, IntWalk.i64_in _ (by omega), by omega, h3⟩
      clear hpv
      rcases hcs with ⟨hbad, h1 | ⟨h1, h2⟩ | ⟨h1, h2, h3⟩ | ⟨h1, h2, h3, h4⟩ | ⟨h1, h2, h3, h4, h5⟩⟩ | ⟨h1, h2, h3, h4, h5, hcs⟩
      · have HV := Lib.hid (HGB.out hbad)
        clear HGB HGG hcell hbad
        go_wp2_with fail
        rw [HW1.out]
        go_quiet (fail)
        go_wp2_with fail
        go_ret
        exact ⟨by rw [← HV.out]; rfl, HQB.out _⟩
      · have HV := Lib.hid (HGB.out hbad)
        have h1d : decide (tpl < 1) = false := by simp; omega
        clear HGB HGG hcell hbad
        go_wp2_with fail
        rw [HW1.out]
        go_quiet (fail)
        go_wp2_with fail
        go_ret
        exact ⟨by rw [← HV.out]; rfl, HQB.out _⟩
      · have HV := Lib.hid (HGB.out hbad)
        have h1d : decide (tpl < 1) = false := by simp; omega
        have h2d : decide (1099511627776 < tpl) = false := by simp; omega
        rcases hcell with ⟨hk0, rfl, hkd⟩ | ⟨y, hk1, rfl, hkd, hkz, hkl, hwr, hkn, p0⟩
        · exact absurd h3 (by simp [lkOrder])
        have h3d : decide (tpl ≤ y.tpl) = true := by simpa [lkOrder] using h3
        generalize y.tpl = ty at *
        clear HGB HGG hbad h3
        go_wp2_with fail
        rw [HW1.out]
        go_quiet (fail)
        go_wp2_with fail
        go_ret
        exact ⟨by rw [← HV.out]; rfl, HQB.out _⟩
      all_goals
        have h1d : decide (tpl < 1) = false := by simp; omega
        have h2d : decide (1099511627776 < tpl) = false := by simp; omega
        have hprev : (decide (0 < k) = false) ∨ (∃ ty : Int, (decide (tpl ≤ ty) = false) ∧ 1 ≤ k ∧ decide (0 < k) = true ∧ (1 : Int) ≤ (k : Int) ∧ (k : Int) - 1 < (xs.length : Int) ∧ IntKind.i64.wrap ((k : Int) - 1) = (k : Int) - 1 ∧ ((k : Int) - 1).toNat = k - 1 ∧ ∀ w1, Below (wr.heap.size + 1) W1 w1 → w1.cell? ⟨b, off + (k - 1) * 3, none⟩ = some (.int .i64 ty)) := by
          rcases hcell with ⟨_, rfl, hkd⟩ | ⟨y, hk1, rfl, hkd, hkz, hkl, hwr, hkn, p0⟩
          · exact .inl hkd
          · exact .inr ⟨y.tpl, by simpa [lkOrder] using h3, hk1, hkd, hkz, hkl, hwr, hkn, p0⟩
        clear hcell h3
      · have HV := Lib.hid (HGB.out hbad)
        have h4d : decide (st < 1) = true := by simp; omega
        clear HGB HGG hbad
        rcases hprev with hkd | ⟨ty, h3d, hk1, hkd, hkz, hkl, hwr, hkn, p0⟩
        all_goals
          go_wp2_with fail
          rw [HW1.out]
          go_quiet (fail)
          go_wp2_with fail
          go_ret
          exact ⟨by rw [← HV.out]; rfl, HQB.out _⟩
      · have HV := Lib.hid (HGB.out hbad)
        have h4d : decide (st < 1) = false := by simp; omega
        have h5d : decide (4 < st) = true := by simp; omega
        clear HGB HGG hbad
        rcases hprev with hkd | ⟨ty, h3d, hk1, hkd, hkz, hkl, hwr, hkn, p0⟩
        all_goals
          go_wp2_with fail
          rw [HW1.out]
          go_quiet (fail)
          go_wp2_with fail
          go_ret
          exact ⟨by rw [← HV.out]; rfl, HQB.out _⟩
      have h4d : decide (st < 1) = false := by simp; omega
      have h5d : decide (4 < st) = false := by simp; omega
      rcases hcs with ⟨hbad, ⟨rfl, h6⟩ | ⟨h6, rfl⟩⟩ | ⟨rfl, rfl, hcs⟩ | ⟨h6, h7, ⟨hbad, h8⟩ | ⟨hbad, h8, h9⟩ | hcs⟩
      · have HV := Lib.hid (HGB.out hbad)
        have h6d : (st == 3) = false := by simpa using h6
        clear HGB HGG hbad h6
        rcases hprev with hkd | ⟨ty, h3d, hk1, hkd, hkz, hkl, hwr, hkn, p0⟩
        all_goals
          go_wp2_with fail
          rw [HW1.out]
          go_quiet (fail)
          go_wp2_with fail
          go_ret
          exact ⟨by rw [← HV.out]; rfl, HQB.out _⟩
      · have HV := Lib.hid (HGB.out hbad)
        have h6d : (tgt == 0) = false := by simpa using h6
        clear HGB HGG hbad h6
        rcases hprev with hkd | ⟨ty, h3d, hk1, hkd, hkz, hkl, hwr, hkn, p0⟩
        all_goals
          go_wp2_with fail
          rw [HW1.out]
          go_quiet (fail)
          go_wp2_with fail
          go_ret
          exact ⟨by rw [← HV.out]; rfl, HQB.out _⟩
      · skip
        rcases hprev with hkd | ⟨ty, h3d, hk1, hkd, hkz, hkl, hwr, hkn, p0⟩
        all_goals
          go_wp2_with fail
          rw [HW1.out]
          go_quiet (fail)
          go_wp2_with fail
          obtain ⟨wo, rfl⟩ : ∃ wo : World, wo = wr := ⟨_, rfl⟩
          go_loopw [68] (fun i wi => ∃ j : Nat, j ≤ k ∧ i = .int .i64 j ∧ True ∧ Below (wo.heap.size + 1) W1 wi) (fun i _ => k - (intOf i).toNat)
          case atStart => exact ⟨0, by omega, rfl, trivial, hqq _⟩
          case round =>
            obtain ⟨j, hj, rfl, hno, hbi⟩ := hrel
            have hbw := HBW.out _ hbi
            have hsi := hbi.size
            rw [HSZ.out] at hsi
            by_cases hlj : j < k
            · obtain ⟨b', off', y, hab, hbl', hy, hcy, _⟩ := (HR0.out.later hbw).at_ (show j < xs.length by omega)
              simp only [Option.some.injEq, Addr.mk.injEq, and_true] at hab
              obtain ⟨rfl, rfl⟩ := hab
              have hba : ∀ o, Below (wo.heap.size + 1) W1 (wr.alloc o) := fun o => hbi.alloc (by omega) o
              obtain ⟨yt, yg, ys⟩ := y
              have m0 := hcy 0 _ rfl; have m1 := hcy 1 _ rfl; have m2 := hcy 2 _ rfl
              simp only [Nat.add_zero] at m0 m1 m2
              clear hcy hno hy
              clear HGB HGG HSE hcs
              go_wp2_with fail
              go_roundw
              case rel => exact ⟨j + 1, by omega, by go_num, trivial, hba _⟩
              case measure => simp [intOf]; omega
            · obtain rfl : j = k := by omega
              have HV := Lib.hid (show formGo xs (j + 1) (xs.length - (j + 1)) = G by
                rcases hcs with ⟨_, hS⟩ | ⟨hg, _⟩
                · obtain ⟨j', y, h1, h2, h3, h4⟩ := HSE.out.1 hS
                  exact absurd h4 h3
                · exact HGG.out hg)
              clear HGB HGG HSE hcs hno
              go_wp2_with fail
              go_roundw
              case rel => exact ⟨j + 1, by omega, by go_num, HV.out, hbw⟩
              case measure => simp [intOf]; omega
      all_goals
        have h6d : (tgt == 0) = false := by simpa using h6
        have h6e : (tgt != 0) = true := by simpa using h6
        have h7d : (st == 3) = false := by simpa using h7
      · have HV := Lib.hid (HGB.out hbad)
        clear HGB HGG hbad h6 h7
        rcases hprev with hkd | ⟨ty, h3d, hk1, hkd, hkz, hkl, hwr, hkn, p0⟩
        all_goals
          go_wp2_with fail
          rw [HW1.out]
          go_quiet (fail)
          go_wp2_with fail
          go_ret
          exact ⟨by rw [← HV.out]; rfl, HQB.out _⟩
      · have HV := Lib.hid (HGB.out hbad)
        clear HGB HGG hbad h6 h7
        rcases hprev with hkd | ⟨ty, h3d, hk1, hkd, hkz, hkl, hwr, hkn, p0⟩
        all_goals
          go_wp2_with fail
          rw [HW1.out]
          go_quiet (fail)
          go_wp2_with fail
          go_ret
          exact ⟨by rw [← HV.out]; rfl, HQB.out _⟩
      · clear h7
        rcases hprev with hkd | ⟨ty, h3d, hk1, hkd, hkz, hkl, hwr, hkn, p0⟩
        all_goals
          go_wp2_with fail
          rw [HW1.out]
          go_quiet (fail)
          go_wp2_with fail
          obtain ⟨wo, rfl⟩ : ∃ wo : World, wo = wr := ⟨_, rfl⟩
          go_loopw [68] (fun i wi => ∃ j : Nat, j ≤ k ∧ i = .int .i64 j ∧ (∀ (j' : Nat) (y : Lk), j' < j → xs[j']? = some y → ¬ y.tgt = tgt) ∧ Below (wo.heap.size + 1) W1 wi) (fun i _ => k - (intOf i).toNat)
          case atStart => exact ⟨0, by omega, rfl, fun j' y h => by omega, hqq _⟩
          case round =>
            obtain ⟨j, hj, rfl, hno, hbi⟩ := hrel
            have hbw := HBW.out _ hbi
            have hsi := hbi.size
            rw [HSZ.out] at hsi
            by_cases hlj : j < k
            · obtain ⟨b', off', y, hab, hbl', hy, hcy, _⟩ := (HR0.out.later hbw).at_ (show j < xs.length by omega)
              simp only [Option.some.injEq, Addr.mk.injEq, and_true] at hab
              obtain ⟨rfl, rfl⟩ := hab
              have HNO := Lib.hid hno
              have HYY := Lib.hid hy
              have hba : ∀ o, Below (wo.heap.size + 1) W1 (wr.alloc o) := fun o => hbi.alloc (by omega) o
              obtain ⟨yt, yg, ys⟩ := y
              have m0 := hcy 0 _ rfl; have m1 := hcy 1 _ rfl; have m2 := hcy 2 _ rfl
              simp only [Nat.add_zero] at m0 m1 m2
              clear hcy hno hy
              by_cases hyt : yg = tgt
              · have HV := Lib.hid (HGB.out (.inr (HSE.out.2 ⟨j, _, hlj, HYY.out, by simpa [hyt] using h6, hyt⟩)))
                subst hyt
                clear HGB HGG HSE hcs HNO HYY
                go_wp2_with fail
                go_ret
                exact ⟨by rw [← HV.out]; rfl, HBW.out _ (hba _)⟩
              · have hyd : (yg == tgt) = false := by simpa using hyt
                clear HGB HGG HSE hcs
                go_wp2_with fail
                go_roundw
                case rel => exact ⟨j + 1, by omega, by go_num, fun j' y h1 h2 => by
                  by_cases hjj : j' = j
                  · subst hjj; rw [HYY.out] at h2; obtain rfl := Option.some.inj h2; exact hyt
                  · exact HNO.out j' y (by omega) h2, hba _⟩
                case measure => simp [intOf]; omega
            · obtain rfl : j = k := by omega
              have HV := Lib.hid (show formGo xs (j + 1) (xs.length - (j + 1)) = G by
                rcases hcs with ⟨_, _, _, hS⟩ | ⟨hg, _, _, _⟩
                · obtain ⟨j', y, h1, h2, h3, h4⟩ := HSE.out.1 hS
                  exact absurd h4 (hno j' y h1 h2)
                · exact HGG.out hg)
              clear HGB HGG HSE hcs hno
              go_wp2_with fail
              go_roundw
              case rel => exact ⟨j + 1, by omega, by go_num, HV.out, hbw⟩
              case measure => simp [intOf]; omega
    · obtain rfl : k = xs.length := by omega
      rw [formGo_end] at hp
      have HP := Lib.hid hp
      clear hp H0
      go_wp2_with fail
      go_ret
      exact ⟨by rw [← HP.out]; rfl, hb⟩

end Go.Proofs.YtdgakmpopgpijaaGreatDoor

/- What Set and Drop answer: their errors and links, said of lists alone; that the reference's error is the same one. -/
namespace Go.Proofs.YtdgakmpopgpijaaGreatDoor
open Go.RowKit

/-- Whether a link other than the p-th one has a target. -/
def other (p : Int) (tgt : Int) : List Lk → Nat → Bool
  | [], _ => false
  | x :: l, k => if ¬ (k : Int) = p ∧ x.tgt = tgt then true else other p tgt l (k + 1)
theorem other_at (p tgt : Int) (xs : List Lk) (k : Nat) (x : Lk) (h : xs[k]? = some x) : other p tgt (xs.drop k) k = if ¬ (k : Int) = p ∧ x.tgt = tgt then true else other p tgt (xs.drop (k + 1)) (k + 1) := by
  rw [drop_at xs k x h, other]
theorem other_iff (p tgt : Int) : ∀ (l : List Lk) (k : Nat), other p tgt l k = true ↔ ∃ j x, l[j]? = some x ∧ ¬ ((k + j : Nat) : Int) = p ∧ x.tgt = tgt
  | [], k => by simp [other]
  | y :: l, k => by
    unfold other
    split
    · rename_i h
      simp only [true_iff]
      exact ⟨0, y, rfl, by simpa using h⟩
    · rename_i h
      rw [other_iff p tgt l (k + 1)]
      constructor
      · rintro ⟨j, x, h1, h2, h3⟩
        exact ⟨j + 1, x, by simpa using h1, by rw [show k + (j + 1) = k + 1 + j by omega]; exact h2, h3⟩
      · rintro ⟨j, x, h1, h2, h3⟩
        cases j with
        | zero =>
          obtain rfl : y = x := by simpa using h1
          exact absurd ⟨by simpa using h2, h3⟩ h
        | succ j => exact ⟨j, x, by simpa using h1, by rw [show k + 1 + j = k + (j + 1) by omega]; exact h2, h3⟩

/-- What lies where the first element with a property is. -/
theorem posFrom_get {α : Type} (p : α → Bool) : ∀ (xs : List α) (i k : Nat), posFrom p xs i = (k : Int) → i ≤ k → ∃ x, xs[k - i]? = some x ∧ p x = true
  | [], i, k, h, _ => by simp only [posFrom] at h; omega
  | y :: l, i, k, h, hk => by
    unfold posFrom at h
    split at h
    · rename_i hp
      obtain rfl : i = k := by omega
      exact ⟨y, by simp, hp⟩
    · rcases posFrom_bd p l (i + 1) with hb | hb
      · omega
      · obtain ⟨x, hx, hp⟩ := posFrom_get p l (i + 1) k h (by omega)
        refine ⟨x, ?_, hp⟩
        rw [show k - i = (k - (i + 1)) + 1 by omega]
        simpa using hx
theorem posOf_get {α : Type} (p : α → Bool) (xs : List α) (h : 0 ≤ posOf p xs) : ∃ (k : Nat) (x : α), posOf p xs = k ∧ k < xs.length ∧ xs[k]? = some x ∧ p x = true := by
  rcases posOf_bd p xs with hb | hb
  · omega
  · obtain ⟨k, hk⟩ : ∃ k : Nat, posOf p xs = (k : Int) := ⟨(posOf p xs).toNat, by omega⟩
    obtain ⟨x, hx, hp⟩ := posFrom_get p xs 0 k hk (Nat.zero_le _)
    exact ⟨k, x, hk, by omega, by simpa using hx, hp⟩

/-- The links in form, the k-th one found: the other ones' targets. -/
theorem other_aim {xs : List Lk} (hf : formB xs = true) {k : Nat} {x : Lk} (hx : xs[k]? = some x) {tgt : Int} (ht : 1 ≤ tgt) : other k tgt xs 0 = decide (¬ x.tgt = tgt ∧ aimB tgt xs = true) := by
  have hP := (form_ok hf).2.2
  have hk : k < xs.length := (List.getElem?_eq_some_iff.1 hx).1
  have hxe : xs[k] = x := (List.getElem?_eq_some_iff.1 hx).2
  rw [Bool.eq_iff_iff, other_iff, decide_eq_true_iff]
  constructor
  · rintro ⟨j, y, h1, h2, h3⟩
    simp only [Nat.zero_add] at h2
    have hj : j < xs.length := (List.getElem?_eq_some_iff.1 h1).1
    have hje : xs[j] = y := (List.getElem?_eq_some_iff.1 h1).2
    refine ⟨fun h4 => ?_, ?_⟩
    · rw [List.pairwise_iff_getElem] at hP
      rcases Nat.lt_or_gt_of_ne (show j ≠ k by omega) with hl | hl
      · have := hP j k hj hk hl
        rw [hje, hxe] at this
        unfold TgtNe at this
        omega
      · have := hP k j hk hj hl
        rw [hje, hxe] at this
        unfold TgtNe at this
        omega
    · unfold aimB
      rw [List.any_eq_true]
      exact ⟨y, List.mem_of_getElem? h1, by simpa using h3⟩
  · rintro ⟨h1, h2⟩
    unfold aimB at h2
    rw [List.any_eq_true] at h2
    obtain ⟨y, hy, h3⟩ := h2
    obtain ⟨j, hj⟩ := List.getElem?_of_mem hy
    refine ⟨j, y, hj, fun h4 => ?_, by simpa using h3⟩
    simp only [Nat.zero_add] at h4
    obtain rfl : j = k := by omega
    rw [hx] at hj
    obtain rfl : x = y := by simpa using hj
    exact h1 (by simpa using h3)

/-- The error of Set behind the form: at the place p of the link. -/
def setErr (xs : List Lk) (id tgt : Int) : Int := if formB xs = false then 4 else if posOf (hasTpl id) xs < 0 then 6 else if tgt < 1 then 2 else if 1099511627776 < tgt then 2 else match xs[(posOf (hasTpl id) xs).toNat]? with
  | none => 0
  | some x => if x.st = 4 then 17 else if other (posOf (hasTpl id) xs) tgt xs 0 = true then 7 else 0
/-- The links with a target set. -/
def setLks (xs : List Lk) (k : Nat) (tgt : Int) : List Lk := match xs[k]? with
  | none => xs
  | some x => xs.set k ⟨x.tpl, tgt, 1⟩

def SetPost (E : Int) (ys : List Lk) (w : World) (e : Ending) (w' : World) : Prop :=
  (∃ v, e = .returned (.tuple #[v, .int .i64 E]) ∧ (¬ E = 0 → v = .slice none 0 0) ∧ (E = 0 → ∃ a cap, v = .slice a ys.length cap ∧ LksAt w' a ys)) ∧ Below w.heap.size w w'
theorem SetPost.bad {E : Int} {ys : List Lk} {w w' : World} (h : ¬ E = 0) (hb : Below w.heap.size w w') : SetPost E ys w (.returned (.tuple #[.slice none 0 0, .int .i64 E])) w' :=
  ⟨⟨_, rfl, fun _ => rfl, fun h' => absurd h' h⟩, hb⟩
theorem SetPost.good {ys : List Lk} {w w' : World} {a : Option Addr} {cap : Nat} (hy : LksAt w' a ys) (hb : Below w.heap.size w w') : SetPost 0 ys w (.returned (.tuple #[.slice a ys.length cap, .int .i64 0])) w' :=
  ⟨⟨_, rfl, fun h => absurd rfl h, fun _ => ⟨a, cap, rfl, hy⟩⟩, hb⟩

/-- The error of Drop. -/
def dropErr (xs : List Lk) (id : Int) : Int := if formB xs = false then 4 else if posOf (hasTpl id) xs < 0 then 6 else match xs[(posOf (hasTpl id) xs).toNat]? with
  | none => 0
  | some x => if x.st = 4 then 0 else 17
def dropLks (xs : List Lk) (k : Nat) : List Lk := xs.take k ++ xs.drop (k + 1)

/-! ### encodings of lists of links -/
theorem lk_flat_set : ∀ (xs : List Lk) (k : Nat) (x y : Lk), xs[k]? = some x → y.tpl = x.tpl → ((xs.flatMap Lk.enc).set (k * 3 + 1) (.int .i64 y.tgt)).set (k * 3 + 2) (.int .u8 y.st) = (xs.set k y).flatMap Lk.enc
  | [], k, x, y, h, _ => by simp at h
  | z :: xs, 0, x, y, h, ht => by
    obtain rfl : z = x := by simpa using h
    simp [Lk.enc, ht]
  | z :: xs, k + 1, x, y, h, ht => by
    have ih := lk_flat_set xs k x y (by simpa using h) ht
    rw [List.set_cons_succ, List.flatMap_cons, List.flatMap_cons, ← ih]
    simp only [Lk.enc, List.cons_append, List.nil_append]
    rw [show (k + 1) * 3 + 1 = k * 3 + 1 + 1 + 1 + 1 by omega, show (k + 1) * 3 + 2 = k * 3 + 2 + 1 + 1 + 1 by omega]
    simp
theorem lk_enc_one (xs : List Lk) : ∀ u ∈ xs.flatMap Lk.enc, u.oneCell' = true := by
  intro u hu
  obtain ⟨x, _, hx⟩ := List.mem_flatMap.1 hu
  simp only [Lk.enc, List.mem_cons, List.not_mem_nil, or_false] at hx
  rcases hx with rfl | rfl | rfl <;> rfl
/-- The cells of links that came in. -/
theorem LksAt.cells {w : World} {b off : Nat} {xs : List Lk} (h : ∀ i x, xs[i]? = some x → (∀ j v, (Lk.enc x)[j]? = some v → w.cell? ⟨b, off + i * 3 + j, none⟩ = some v)) : ∀ j u, (xs.flatMap Lk.enc)[j]? = some u → w.cell? ⟨b, off + j, none⟩ = some u := by
  intro j u hu
  have hlen := flat_len Lk.enc 3 (fun _ => rfl) xs
  have hj := (List.getElem?_eq_some_iff.1 hu).1
  have hi : j / 3 < xs.length := by omega
  have e1 := flat_at Lk.enc 3 (fun _ => rfl) xs (j / 3) xs[j / 3] (j % 3) ((xs[j / 3]).enc[j % 3]!) (List.getElem?_eq_getElem hi) (getBang _ _ (by show j % 3 < 3; omega))
  rw [show j / 3 * 3 + j % 3 = j by omega, hu] at e1
  have := h (j / 3) xs[j / 3] (List.getElem?_eq_getElem hi) (j % 3) u (by rw [getBang (xs[j / 3]).enc (j % 3) (by show j % 3 < 3; omega)]; exact e1.symm)
  rw [show off + j / 3 * 3 + j % 3 = off + j by omega] at this
  exact this

end Go.Proofs.YtdgakmpopgpijaaGreatDoor
