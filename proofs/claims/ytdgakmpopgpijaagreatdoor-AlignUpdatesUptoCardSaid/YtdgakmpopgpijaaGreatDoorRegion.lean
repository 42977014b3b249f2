/- The contracts of region.from, Check, Default, usable: what they return for any region. -/
import Derived.Test.YtdgakmpopgpijaaGreatDoorHeader
set_option linter.unusedVariables false
namespace Go.Proofs.YtdgakmpopgpijaaGreatDoor
open Go.RowKit

/-- A region of the grid. -/
structure Reg where
  name : ByteArray
  top : Int
  height : Int
  left : Int
  width : Int
  align : Int
  bottom : Bool

def Reg.enc (x : Reg) : List Value := [.string x.name, .int .i64 x.top, .int .i64 x.height, .int .i64 x.left, .int .i64 x.width, .int .u8 x.align, .bool x.bottom]
def i64 (n : Int) : Prop := -9223372036854775808 ≤ n ∧ n ≤ 9223372036854775807
def Reg.fits (x : Reg) : Prop := x.name.size ≤ 4000000 ∧ i64 x.top ∧ i64 x.height ∧ i64 x.left ∧ i64 x.width ∧ 0 ≤ x.align ∧ x.align ≤ 255

/-- Whether a number is from lo to hi. -/
def inB (n lo hi : Int) : Bool := decide (lo ≤ n ∧ n ≤ hi)
theorem inB_yes {n lo hi : Int} (h : lo ≤ n) (h' : n ≤ hi) : inB n lo hi = true := by simp [inB, h, h']
theorem inB_no {n lo hi : Int} (h : ¬ (lo ≤ n ∧ n ≤ hi)) : inB n lo hi = false := by unfold inB; exact decide_eq_false h

theorem from_calls (n lo hi : Int) (w : World) : Calls Tryz.prog 108 #[.int .i64 n, .int .i64 lo, .int .i64 hi] w fun e w' => e = .returned (.bool (inB n lo hi)) ∧ w = w' := by
  by_cases h1 : lo ≤ n
  · by_cases h2 : n ≤ hi
    · have HI := Lib.hid (inB_yes h1 h2)
      go_enter Tryz.func108, Tryz.ntmps108
      go_wp2
      go_ret
      rw [HI.out]; exact ⟨rfl, rfl⟩
    · have HI := Lib.hid (inB_no (n := n) (lo := lo) (hi := hi) (by omega))
      have h2' : decide (n ≤ hi) = false := by simpa using h2
      go_enter Tryz.func108, Tryz.ntmps108
      go_wp2
      go_ret
      rw [HI.out]; exact ⟨rfl, rfl⟩
  · have HI := Lib.hid (inB_no (n := n) (lo := lo) (hi := hi) (by omega))
    have h1' : decide (lo ≤ n) = false := by simpa using h1
    go_enter Tryz.func108, Tryz.ntmps108
    go_wp2
    go_ret
    rw [HI.out]; exact ⟨rfl, rfl⟩

/-- Whether the rectangle lies in the grid. -/
def gridB (x : Reg) : Bool := inB x.top 0 14 && inB x.height 1 (15 - x.top) && inB x.left 0 31 && inB x.width 1 (32 - x.left)
/-- The error of a region. -/
def regErr (x : Reg) : Int := if (!nameB x.name) = true then 5 else if (!gridB x) = true then 2 else if x.align < 1 ∨ 3 < x.align then 3 else 0

set_option maxHeartbeats 1600000 in
theorem regCheck_calls (x : Reg) (w : World) (hf : x.fits) :
    Calls Tryz.prog 65 #[.agg x.enc.toArray] w fun e w' => e = .returned (.int .i64 (regErr x)) ∧ Below w.heap.size w w' := by
  obtain ⟨nm, top, height, left, width, align, bottom⟩ := x
  obtain ⟨hs, hT, hH, hL, hW, ha0, ha1⟩ := hf
  simp only [i64] at hs hT hH hL hW ha0 ha1
  simp only [Reg.enc]
  generalize hG : regErr ⟨nm, top, height, left, width, align, bottom⟩ = G
  simp only [regErr, gridB] at hG
  have HG := Lib.hid hG
  clear hG
  rcases (show (¬ (0 ≤ top ∧ top ≤ 14)) ∨ ((0 ≤ top ∧ top ≤ 14) ∧ ¬ (0 ≤ left ∧ left ≤ 31)) ∨ ((0 ≤ top ∧ top ≤ 14) ∧ (0 ≤ left ∧ left ≤ 31)) by omega) with h | ⟨⟨t0, t1⟩, h⟩ | ⟨⟨t0, t1⟩, ⟨l0, l1⟩⟩
  case' inl =>
    have i1 := inB_no h
  case' inr.inl =>
    have i1 := inB_yes t0 t1
    have i3 := inB_no h
  case' inr.inr =>
    have i1 := inB_yes t0 t1
    have i3 := inB_yes l0 l1
  all_goals
    go_enter Tryz.func65, Tryz.ntmps65
    go_wp2_with (first
      | (go_at_call 63; refine (name_calls _ _ (by assumption)).mono ?_; rintro e w2 ⟨rfl, rfl⟩)
      | (go_at_call 108; refine (from_calls _ _ _ _).mono ?_; rintro e w2 ⟨rfl, rfl⟩))
    all_goals
      go_ret
      refine ⟨ret_int ?_, (Below.refl _ _).alloc (Nat.le_refl _) _⟩
      rw [← HG.out]
      repeat (first
        | rfl
        | (refine val_pos ?_ ?_; focus (first | assumption | omega | (simp only [*]; decide) | (simp_all <;> fail)))
        | (refine val_neg ?_ ?_; focus (first | omega | (simp only [*]; decide) | (simp_all <;> fail))))

end Go.Proofs.YtdgakmpopgpijaaGreatDoor
