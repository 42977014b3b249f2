/- The contract of region.CheckList: the first error of a list of regions. -/
import Derived.Test.YtdgakmpopgpijaaGreatDoorFind
import Derived.Deep.QuietTactic
import Derived.BigQuiet
set_option linter.unusedVariables false
namespace Go.Proofs.YtdgakmpopgpijaaGreatDoor
open Go.RowKit

/-- The error of a region behind another one (none: it is the first). -/
def stepErr (prev : Option ByteArray) (x : Reg) : Int :=
  if (regErr x != 0) = true then regErr x else match prev with
    | none => 0
    | some p => if (x.name.toList == p.toList) = true then 7 else if Op.bytesLess x.name.toList p.toList = true then 8 else 0
def listFrom : Option ByteArray → List Reg → Int
  | _, [] => 0
  | prev, x :: l => if (stepErr prev x != 0) = true then stepErr prev x else listFrom (some x.name) l
/-- The first error of a list of regions. -/
def listErr (xs : List Reg) : Int := if 16 < xs.length then 9 else listFrom none xs

def prevOf (xs : List Reg) : Nat → Option ByteArray
  | 0 => none
  | k + 1 => (xs[k]?).map Reg.name

theorem listFrom_next (xs : List Reg) (k : Nat) (x : Reg) (hx : xs[k]? = some x) (prev : Option ByteArray) (h : stepErr prev x = 0) : listFrom prev (xs.drop k) = listFrom (prevOf xs (k + 1)) (xs.drop (k + 1)) := by
  have hk : k < xs.length := (List.getElem?_eq_some_iff.1 hx).1
  have e : xs[k] = x := (List.getElem?_eq_some_iff.1 hx).2
  rw [List.drop_eq_getElem_cons hk, e, listFrom, h]
  simp [prevOf, hx]
theorem listFrom_stop (xs : List Reg) (k : Nat) (x : Reg) (hx : xs[k]? = some x) (prev : Option ByteArray) (h : (stepErr prev x != 0) = true) : listFrom prev (xs.drop k) = stepErr prev x := by
  have hk : k < xs.length := (List.getElem?_eq_some_iff.1 hx).1
  have e : xs[k] = x := (List.getElem?_eq_some_iff.1 hx).2
  rw [List.drop_eq_getElem_cons hk, e, listFrom, if_pos h]

theorem list_many (a : Option Addr) (cap : Nat) (xs : List Reg) (w : World) (hn : 16 < xs.length) :
    Calls Tryz.prog 39 #[.slice a xs.length cap] w fun e w' => e = .returned (.int .i64 (listErr xs)) ∧ Below w.heap.size w w' := by
  rw [listErr, if_pos hn]
  have hn' : (16 : Int) < (xs.length : Int) := by omega
  go_enter Tryz.func39, Tryz.ntmps39
  go_wp2_with fail
  go_ret
  exact ⟨rfl, Below.refl _ _⟩

set_option maxHeartbeats 3200000 in
theorem list_few (a : Option Addr) (cap : Nat) (xs : List Reg) (w : World) (hR : Regs w a xs) (hf : ∀ x ∈ xs, x.fits) (hn : xs.length ≤ 16) :
    Calls Tryz.prog 39 #[.slice a xs.length cap] w fun e w' => e = .returned (.int .i64 (listErr xs)) ∧ Below w.heap.size w w' := by
  rw [listErr, if_neg (by omega)]
  generalize hG : listFrom none xs = G
  have H0 := Lib.hid (show listFrom (prevOf xs 0) (xs.drop 0) = G by rw [List.drop_zero]; exact hG)
  have hn2 : decide ((16 : Int) < (xs.length : Int)) = false := by simp; omega
  clear hG
  go_enter Tryz.func39, Tryz.ntmps39
  go_wp2_with fail
  go_loopw [11] (fun i wr => ∃ k : Nat, k ≤ xs.length ∧ i = .int .i64 k ∧ listFrom (prevOf xs k) (xs.drop k) = G ∧ Below w.heap.size w wr) (fun i _ => xs.length - (intOf i).toNat)
  case atStart => exact ⟨0, by omega, rfl, H0.out, Below.refl _ _⟩
  case round =>
    obtain ⟨k, hk, rfl, hp, hb⟩ := hrel
    by_cases hlt : k < xs.length
    · obtain ⟨b, off, x, rfl, hbl, hx, hc, _⟩ := (hR.later hb).at_ hlt
      have hfx := hf x (List.mem_of_getElem? hx)
      have HC := Lib.hid (fun w => regCheck_calls x w hfx)
      have hB1 : ∀ (o : Obj) (w1 : World), Below (wr.heap.size + 1) (wr.alloc o) w1 → Below w.heap.size w w1 := fun o w1 h => (hb.alloc hb.size o).trans (h.mono (by have := hb.size; omega))
      have HB1 := Lib.hid hB1
      have HN := Lib.hid (listFrom_next xs k x hx (prevOf xs k))
      have HS := Lib.hid (listFrom_stop xs k x hx (prevOf xs k))
      have HP := Lib.hid hp
      have hRr := hR.later hb
      obtain ⟨xn, xt, xh, xl, xw, xa, xb⟩ := x
      have d0 := hc 0 _ rfl; have d1 := hc 1 _ rfl; have d2 := hc 2 _ rfl; have d3 := hc 3 _ rfl; have d4 := hc 4 _ rfl; have d5 := hc 5 _ rfl; have d6 := hc 6 _ rfl
      simp only [Nat.add_zero] at d0 d1 d2 d3 d4 d5 d6
      cases hE : regErr ⟨xn, xt, xh, xl, xw, xa, xb⟩ != 0
      · have hE0 : regErr ⟨xn, xt, xh, xl, xw, xa, xb⟩ = 0 := by simpa using hE
        have HE0 := Lib.hid hE0
        simp only [Reg.enc] at HC
        rw [hE0] at HC
        clear hE hE0 hp hB1 hc
        rcases Nat.eq_zero_or_pos k with hk0 | hk0
        · have hst := Lib.hid (show stepErr (prevOf xs k) ⟨xn, xt, xh, xl, xw, xa, xb⟩ = 0 by rw [hk0]; simp [stepErr, prevOf, HE0.out])
          have hkd : decide (0 < k) = false := by simp; omega
          clear hRr hk0
          go_wp2_with (go_at_call 65; refine (HC.out _).mono ?_; rintro e w1 ⟨rfl, hb1⟩; simp only [World.size_alloc] at hb1)
          go_quiet (fail)
          go_wp2_with fail
          go_quiet (fail)
          go_wp2_with fail
          go_roundw
          case rel => exact ⟨k + 1, by omega, by go_num, by rw [← HN.out hst.out]; exact HP.out, below_drewN (HB1.out _ _ hb1) _⟩
          case measure => simp [intOf]; omega
        · obtain ⟨b', off', y, hab, _, hy, hcy, _⟩ := hRr.at_ (show k - 1 < xs.length by omega)
          simp only [Option.some.injEq, Addr.mk.injEq, and_true] at hab
          obtain ⟨rfl, rfl⟩ := hab
          obtain ⟨yn, yt, yh, yl, yw, ya, yb⟩ := y
          have e0 := hcy 0 _ rfl
          simp only [Nat.add_zero] at e0
          have hpv : prevOf xs k = some yn := by
            obtain ⟨j, rfl⟩ : ∃ j, k = j + 1 := ⟨k - 1, by omega⟩
            simp only [Nat.add_sub_cancel] at hy
            simp [prevOf, hy]
          have hst : stepErr (prevOf xs k) ⟨xn, xt, xh, xl, xw, xa, xb⟩ = if (xn.toList == yn.toList) = true then 7 else if Op.bytesLess xn.toList yn.toList = true then 8 else 0 := by
            rw [hpv]; simp [stepErr, HE0.out]
          have hcell : ∀ w1, Below (wr.heap.size + 1) (wr.alloc (.cells #[.string xn, .int .i64 xt, .int .i64 xh, .int .i64 xl, .int .i64 xw, .int .u8 xa, .bool xb] 101)) w1 → w1.cell? ⟨wr.heap.size, 0, none⟩ = some (.string xn) ∧ w1.cell? ⟨b, off + (k - 1) * 7, none⟩ = some (.string yn) := fun w1 h =>
            ⟨box_cell wr _ _ 0 _ rfl w1 h, by
              rw [h.cell (p := ⟨b, off + (k - 1) * 7, none⟩) (by simp; omega), World.cell?_alloc_lt _ _ _ (by simpa using hbl)]
              exact e0⟩
          have HCELL := Lib.hid hcell
          have hkd : decide (0 < k) = true := by simp; omega
          have hk1 : 1 ≤ k := hk0
          have hkz : (1 : Int) ≤ (k : Int) := by omega
          have hkl : (k : Int) - 1 < (xs.length : Int) := by omega
          have hwr : IntKind.i64.wrap ((k : Int) - 1) = (k : Int) - 1 := IntWalk.i64_in _ (by omega)
          have hkn : ((k : Int) - 1).toNat = k - 1 := by omega
          clear hcell hpv hRr hcy hy e0 hk0
          rcases h1 : xn.toList == yn.toList with _ | _
          · rcases h2 : Op.bytesLess xn.toList yn.toList with _ | _
            · rw [h1, h2, if_neg (by decide), if_neg (by decide)] at hst
              have HST := Lib.hid hst
              clear hst
              go_wp2_with (go_at_call 65; refine (HC.out _).mono ?_; rintro e w1 ⟨rfl, hb1⟩; simp only [World.size_alloc] at hb1; have hq1 := (HCELL.out _ hb1).1; have hq2 := (HCELL.out _ hb1).2)
              go_quiet (fail)
              go_wp2_with fail
              go_quiet (fail)
              go_wp2_with fail
              go_roundw
              case rel => exact ⟨k + 1, by omega, by go_num, by rw [← HN.out HST.out]; exact HP.out, below_drewN (HB1.out _ _ hb1) _⟩
              case measure => simp [intOf]; omega
            · rw [h1, h2, if_neg (by decide), if_pos rfl] at hst
              have HST := Lib.hid hst
              clear hst
              go_wp2_with (go_at_call 65; refine (HC.out _).mono ?_; rintro e w1 ⟨rfl, hb1⟩; simp only [World.size_alloc] at hb1; have hq1 := (HCELL.out _ hb1).1; have hq2 := (HCELL.out _ hb1).2)
              go_quiet (fail)
              go_wp2_with fail
              go_quiet (fail)
              go_wp2_with fail
              go_ret
              exact ⟨ret_int (by rw [← HP.out, HS.out (by rw [HST.out]; rfl), HST.out]), below_drewN (below_drewN (HB1.out _ _ hb1) _) _⟩
          · rw [h1, if_pos rfl] at hst
            have HST := Lib.hid hst
            clear hst
            go_wp2_with (go_at_call 65; refine (HC.out _).mono ?_; rintro e w1 ⟨rfl, hb1⟩; simp only [World.size_alloc] at hb1; have hq1 := (HCELL.out _ hb1).1; have hq2 := (HCELL.out _ hb1).2)
            go_quiet (fail)
            go_wp2_with fail
            go_ret
            exact ⟨ret_int (by rw [← HP.out, HS.out (by rw [HST.out]; rfl), HST.out]), below_drewN (HB1.out _ _ hb1) _⟩
      · have hst : stepErr (prevOf xs k) ⟨xn, xt, xh, xl, xw, xa, xb⟩ = regErr ⟨xn, xt, xh, xl, xw, xa, xb⟩ := by unfold stepErr; exact if_pos hE
        have HST := Lib.hid hst
        simp only [Reg.enc] at HC
        generalize regErr ⟨xn, xt, xh, xl, xw, xa, xb⟩ = E at *
        clear hst hp hB1 hc hRr hfx hx
        go_wp2_with (go_at_call 65; refine (HC.out _).mono ?_; rintro e w1 ⟨rfl, hb1⟩; simp only [World.size_alloc] at hb1)
        go_ret
        exact ⟨ret_int (by rw [← HP.out, HS.out (by rw [HST.out]; exact hE), HST.out]), HB1.out _ _ hb1⟩
    · obtain rfl : k = xs.length := by omega
      rw [List.drop_length] at hp
      have HP := Lib.hid hp
      clear hp H0
      go_wp2_with fail
      go_ret
      exact ⟨ret_int (by rw [← HP.out]; cases prevOf xs xs.length <;> rfl), hb⟩

theorem list_calls (a : Option Addr) (cap : Nat) (xs : List Reg) (w : World) (hR : Regs w a xs) (hf : ∀ x ∈ xs, x.fits) :
    Calls Tryz.prog 39 #[.slice a xs.length cap] w fun e w' => e = .returned (.int .i64 (listErr xs)) ∧ Below w.heap.size w w' := by
  by_cases hn : 16 < xs.length
  · exact list_many a cap xs w hn
  · exact list_few a cap xs w hR hf (by omega)

end Go.Proofs.YtdgakmpopgpijaaGreatDoor
