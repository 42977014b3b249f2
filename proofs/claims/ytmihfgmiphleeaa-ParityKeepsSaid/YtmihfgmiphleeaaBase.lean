/- The contracts of parity.Odd, Add, Strip and of the reference's Odd, Add, Strip: what they return for any byte. -/
import Derived.Test.YtmihfgmiphleeaaRows
import Derived.WalkKit
import Derived.ProofKit
import Derived.OpenShut
import Derived.ShutString
import Derived.WalkLawsBesides
import Derived.WalkSpells
import Derived.Lib.BitFns
import Derived.Lib.Hide
import Derived.Outline
namespace Go.Proofs.Ytmihfgmiphleeaa
open Go.ChangeShapes Go.WideShapes Go.ChangeAt Go.RowKit

theorem pop8_bd (x : Int) (h0 : 0 ≤ x) (h1 : x ≤ 255) : 0 ≤ Lib.pop8 x ∧ Lib.pop8 x ≤ 8 := by
  have e := Lib.pop8_eq ⟨x.toNat, by omega⟩
  have l := Lib.onesCount_le8 ⟨x.toNat, by omega⟩
  simp only [Int.toNat_of_nonneg h0] at e
  simp only at l
  omega

/-- Whether a byte has an odd number of bits. -/
def odd (x : Int) : Bool := Lib.pop8 x % 2 == 1
/-- The low seven bits of a byte. -/
def low (x : Int) : Int := bits .and .u8 x 127
/-- The low seven bits with the parity bit. -/
def addP (x : Int) : Int := if odd (low x) then low x else bits .or .u8 (low x) 128
/-- The sum of the first k bits of a byte. -/
def cnt (x : Int) : Nat → Int
  | 0 => 0
  | k + 1 => cnt x k + bits .and .u8 (x / 2 ^ k) 1

theorem byte_all {p : Int → Prop} (h : ∀ n : Fin 256, p (n.val : Int)) (x : Int) (h0 : 0 ≤ x) (h1 : x ≤ 255) : p x := by
  have := h ⟨x.toNat, by omega⟩
  simpa only [Int.toNat_of_nonneg h0] using this

theorem low_bd (x : Int) (h0 : 0 ≤ x) (h1 : x ≤ 255) : 0 ≤ low x ∧ low x ≤ 127 :=
  byte_all (p := fun x => 0 ≤ low x ∧ low x ≤ 127) (by decide +kernel) x h0 h1
theorem addP_bd (x : Int) (h0 : 0 ≤ x) (h1 : x ≤ 255) : 0 ≤ addP x ∧ addP x ≤ 255 :=
  byte_all (p := fun x => 0 ≤ addP x ∧ addP x ≤ 255) (by decide +kernel) x h0 h1
theorem cnt_odd (x : Int) (h0 : 0 ≤ x) (h1 : x ≤ 255) : (cnt x 8 % 2 == 1) = odd x :=
  byte_all (p := fun x => (cnt x 8 % 2 == 1) = odd x) (by decide +kernel) x h0 h1
theorem bit_bd (x : Int) (h0 : 0 ≤ x) (h1 : x ≤ 255) (k : Nat) (hk : k < 8) : 0 ≤ bits .and .u8 (x / 2 ^ k) 1 ∧ bits .and .u8 (x / 2 ^ k) 1 ≤ 1 := by
  have := byte_all (p := fun x => ∀ k : Fin 8, 0 ≤ bits .and .u8 (x / 2 ^ k.val) 1 ∧ bits .and .u8 (x / 2 ^ k.val) 1 ≤ 1) (by decide +kernel) x h0 h1
  exact this ⟨k, hk⟩
theorem cnt_bd (x : Int) (h0 : 0 ≤ x) (h1 : x ≤ 255) : ∀ k : Nat, k ≤ 8 → 0 ≤ cnt x k ∧ cnt x k ≤ k
  | 0, _ => by simp [cnt]
  | k + 1, h => by
    have i := cnt_bd x h0 h1 k (by omega)
    have b := bit_bd x h0 h1 k (by omega)
    simp only [cnt]
    omega

set_option maxRecDepth 100000 in
theorem ones_calls (x : Int) (w : World) (h0 : 0 ≤ x) (h1 : x ≤ 255) :
    Calls Try.prog 20 #[.int .u8 x] w fun e w' => e = .returned (.int .i64 (Lib.pop8 x)) ∧ w = w' := by
  obtain ⟨b0, b1⟩ := pop8_bd x h0 h1
  go_enter Try.func20, Try.ntmps20
  go_wp2
  go_ret
  exact ⟨rfl, rfl⟩

theorem odd_calls (x : Int) (w : World) (h0 : 0 ≤ x) (h1 : x ≤ 255) :
    Calls Try.prog 11 #[.int .u8 x] w fun e w' => e = .returned (.bool (odd x)) ∧ w = w' := by
  obtain ⟨b0, b1⟩ := pop8_bd x h0 h1
  go_enter Try.func11, Try.ntmps11
  go_wp2_with (go_at_call 20; refine (ones_calls _ _ (by omega) (by omega)).mono ?_; rintro e w' ⟨rfl, rfl⟩)
  go_ret
  exact ⟨rfl, rfl⟩

theorem add_calls (x : Int) (w : World) (h0 : 0 ≤ x) (h1 : x ≤ 255) :
    Calls Try.prog 13 #[.int .u8 x] w fun e w' => e = .returned (.int .u8 (addP x)) ∧ w = w' := by
  have hb := low_bd x h0 h1
  have ha : addP x = if odd (low x) then low x else bits .or .u8 (low x) 128 := rfl
  unfold low at *
  obtain ⟨b0, b1⟩ := hb
  cases ho : odd (bits .and .u8 x 127)
  all_goals
    rw [ho] at ha
    have HA := Lib.hid ha
    clear ha
    go_enter Try.func13, Try.ntmps13
    go_wp2_with (go_at_call 11; refine (odd_calls _ _ (by omega) (by omega)).mono ?_; rintro e w' ⟨rfl, rfl⟩)
    go_ret
    rw [HA.out]
    exact ⟨rfl, rfl⟩

theorem strip_calls (x : Int) (w : World) (h0 : 0 ≤ x) (h1 : x ≤ 255) :
    Calls Try.prog 9 #[.int .u8 x] w fun e w' => e = .returned (.tuple #[.int .u8 (low x), .bool (odd x)]) ∧ w = w' := by
  go_enter Try.func9, Try.ntmps9
  go_wp2_with (go_at_call 11; refine (odd_calls _ _ (by omega) (by omega)).mono ?_; rintro e w' ⟨rfl, rfl⟩)
  go_ret2
  exact ⟨rfl, rfl⟩

theorem refOdd_calls (x : Int) (w : World) (h0 : 0 ≤ x) (h1 : x ≤ 255) :
    Calls Try.prog 12 #[.int .u8 x] w fun e w' => e = .returned (.bool (odd x)) ∧ w = w' := by
  rw [← cnt_odd x h0 h1]
  go_enter Try.func12, Try.ntmps12
  go_wp2
  go_loop [3, 5] (fun n i => ∃ k : Nat, k ≤ 8 ∧ i = .int .i64 k ∧ n = .int .i64 (cnt x k)) (fun _ i => 8 - (intOf i).toNat)
  case atStart => exact ⟨0, by omega, rfl, rfl⟩
  case round =>
    obtain ⟨k, hk, rfl, rfl⟩ := hrel
    obtain ⟨c0, c1⟩ := cnt_bd x h0 h1 k hk
    by_cases hlt : k < 8
    · obtain ⟨d0, d1⟩ := bit_bd x h0 h1 k hlt
      go_wp2
      go_round
      case rel => exact ⟨k + 1, by omega, by go_num, rfl⟩
      case measure => simp [intOf]; omega
    · obtain rfl : k = 8 := by omega
      go_wp2
      go_ret
      exact ⟨rfl, rfl⟩

theorem refAdd_calls (x : Int) (w : World) (h0 : 0 ≤ x) (h1 : x ≤ 255) :
    Calls Try.prog 14 #[.int .u8 x] w fun e w' => e = .returned (.int .u8 (addP x)) ∧ w = w' := by
  have hb := low_bd x h0 h1
  have ha : addP x = if odd (low x) then low x else bits .or .u8 (low x) 128 := rfl
  unfold low at *
  obtain ⟨b0, b1⟩ := hb
  cases ho : odd (bits .and .u8 x 127)
  all_goals
    rw [ho] at ha
    have HA := Lib.hid ha
    clear ha
    go_enter Try.func14, Try.ntmps14
    go_wp2_with (go_at_call 12; refine (refOdd_calls _ _ (by omega) (by omega)).mono ?_; rintro e w' ⟨rfl, rfl⟩)
    go_ret
    rw [HA.out]
    exact ⟨rfl, rfl⟩

theorem refStrip_calls (x : Int) (w : World) (h0 : 0 ≤ x) (h1 : x ≤ 255) :
    Calls Try.prog 10 #[.int .u8 x] w fun e w' => e = .returned (.tuple #[.int .u8 (low x), .bool (odd x)]) ∧ w = w' := by
  go_enter Try.func10, Try.ntmps10
  go_wp2_with (go_at_call 12; refine (refOdd_calls _ _ (by omega) (by omega)).mono ?_; rintro e w' ⟨rfl, rfl⟩)
  go_ret2
  exact ⟨rfl, rfl⟩

end Go.Proofs.Ytmihfgmiphleeaa
