/- The contracts of event.spans, KindName and row: what they return for any span, kind and row. -/
import Derived.Test.YtdgakmpopgpijaaGreatDoorRowCheck
set_option linter.unusedVariables false
namespace Go.Proofs.YtdgakmpopgpijaaGreatDoor
open Go.RowKit

/-- Whether a span lies within the frames. -/
def spansB (a b : Int) : Bool := decide (0 ≤ a ∧ a < b ∧ b ≤ 5184000)

set_option maxHeartbeats 800000 in
theorem spans_calls (a b : Int) (w : World) : Calls Tryz.prog 67 #[.agg #[.int .i64 a, .int .i64 b]] w fun e w' => e = .returned (.bool (spansB a b)) ∧ Below w.heap.size w w' := by
  rcases (show a < 0 ∨ (0 ≤ a ∧ b ≤ a) ∨ (0 ≤ a ∧ a < b ∧ 5184000 < b) ∨ (0 ≤ a ∧ a < b ∧ b ≤ 5184000) by omega) with h | ⟨h1, h2⟩ | ⟨h1, h2, h3⟩ | ⟨h1, h2, h3⟩
  · have HS := Lib.hid (show spansB a b = false by simp [spansB]; omega)
    have h' : decide (0 ≤ a) = false := by simp; omega
    go_enter Tryz.func67, Tryz.ntmps67
    go_wp2
    go_ret
    rw [HS.out]; exact ⟨rfl, (Below.refl _ _).alloc (Nat.le_refl _) _⟩
  · have HS := Lib.hid (show spansB a b = false by simp [spansB]; omega)
    have h' : decide (a < b) = false := by simp; omega
    go_enter Tryz.func67, Tryz.ntmps67
    go_wp2
    go_ret
    rw [HS.out]; exact ⟨rfl, (Below.refl _ _).alloc (Nat.le_refl _) _⟩
  · have HS := Lib.hid (show spansB a b = false by simp [spansB]; omega)
    have h' : decide (b ≤ 5184000) = false := by simp; omega
    go_enter Tryz.func67, Tryz.ntmps67
    go_wp2
    go_ret
    rw [HS.out]; exact ⟨rfl, (Below.refl _ _).alloc (Nat.le_refl _) _⟩
  · have HS := Lib.hid (show spansB a b = true by simp [spansB]; omega)
    go_enter Tryz.func67, Tryz.ntmps67
    go_wp2
    go_ret
    rw [HS.out]; exact ⟨rfl, (Below.refl _ _).alloc (Nat.le_refl _) _⟩

/-- The name of a kind. -/
def kindName (k : Int) : ByteArray := if k = 1 then ⟨#[68, 73, 65, 76, 79, 71, 85, 69]⟩ else if k = 2 then ⟨#[83, 79, 85, 78, 68]⟩ else if k = 3 then ⟨#[84, 73, 84, 76, 69]⟩ else if k = 4 then ⟨#[77, 85, 83, 73, 67]⟩ else ⟨#[]⟩

set_option maxHeartbeats 800000 in
theorem kindName_calls (k : Int) (w : World) (h0 : 0 ≤ k) (h1 : k ≤ 255) : Calls Tryz.prog 68 #[.int .u8 k] w fun e w' => e = .returned (.string (kindName k)) ∧ Below w.heap.size w w' := by
  rcases (show k < 1 ∨ 4 < k ∨ k = 1 ∨ k = 2 ∨ k = 3 ∨ k = 4 by omega) with h | h | rfl | rfl | rfl | rfl
  · have HK := Lib.hid (show kindName k = ⟨#[]⟩ by unfold kindName; repeat rw [if_neg (by omega)])
    go_enter Tryz.func68, Tryz.ntmps68
    go_wp2
    go_ret
    rw [HK.out]; exact ⟨rfl, Below.refl _ _⟩
  · have HK := Lib.hid (show kindName k = ⟨#[]⟩ by unfold kindName; repeat rw [if_neg (by omega)])
    go_enter Tryz.func68, Tryz.ntmps68
    go_wp2
    go_ret
    rw [HK.out]; exact ⟨rfl, Below.refl _ _⟩
  all_goals
    go_enter Tryz.func68, Tryz.ntmps68
    go_wp2
    go_ret
    exact ⟨rfl, (Below.refl _ _).alloc (Nat.le_refl _) _⟩

end Go.Proofs.YtdgakmpopgpijaaGreatDoor
