/- The contract of charset.Index: the index of a character in the repertoire. -/
import Derived.Test.YtdgakmpopgpijaaGreatDoorChars
set_option linter.unusedVariables false
namespace Go.Proofs.YtdgakmpopgpijaaGreatDoor
open Go.RowKit

/-- The characters of the repertoire. -/
def repertoire : List Nat := [32, 33, 34, 35, 36, 37, 38, 39, 40, 41, 42, 43, 44, 45, 46, 47, 48, 49, 50, 51, 52, 53, 54, 55, 56, 57, 58, 59, 60, 61, 62, 63, 64, 65, 66, 67, 68, 69, 70, 71, 72, 73, 74, 75, 76, 77, 78, 79, 80, 81, 82, 83, 84, 85, 86, 87, 88, 89, 90, 91, 92, 93, 94, 95, 96, 97, 98, 99, 100, 101, 102, 103, 104, 105, 106, 107, 108, 109, 110, 111, 112, 113, 114, 115, 116, 117, 118, 119, 120, 121, 122, 123, 124, 125, 126, 161, 162, 163, 164, 165, 166, 167, 169, 171, 174, 176, 183, 187, 189, 191, 192, 193, 194, 195, 196, 197, 198, 199, 200, 201, 202, 203, 204, 205, 206, 207, 209, 210, 211, 212, 213, 214, 216, 217, 218, 219, 220, 223, 224, 225, 226, 227, 228, 229, 230, 231, 232, 233, 234, 235, 236, 237, 238, 239, 241, 242, 243, 244, 245, 246, 248, 249, 250, 251, 252, 338, 339, 8212, 8216, 8217, 8220, 8221, 8226, 8230, 8482, 9834]

/-- The index of a character in the repertoire, -1 if it is not in it. -/
def idx (r : Int) : Int := if 32 ≤ r ∧ r ≤ 126 then r - 32 else placeL repertoire r 0

def allStr : ByteArray := ⟨#[32, 33, 34, 35, 36, 37, 38, 39, 40, 41, 42, 43, 44, 45, 46, 47, 48, 49, 50, 51, 52, 53, 54, 55, 56, 57, 58, 59, 60, 61, 62, 63, 64, 65, 66, 67, 68, 69, 70, 71, 72, 73, 74, 75, 76, 77, 78, 79, 80, 81, 82, 83, 84, 85, 86, 87, 88, 89, 90, 91, 92, 93, 94, 95, 96, 97, 98, 99, 100, 101, 102, 103, 104, 105, 106, 107, 108, 109, 110, 111, 112, 113, 114, 115, 116, 117, 118, 119, 120, 121, 122, 123, 124, 125, 126, 194, 161, 194, 162, 194, 163, 194, 164, 194, 165, 194, 166, 194, 167, 194, 169, 194, 171, 194, 174, 194, 176, 194, 183, 194, 187, 194, 189, 194, 191, 195, 128, 195, 129, 195, 130, 195, 131, 195, 132, 195, 133, 195, 134, 195, 135, 195, 136, 195, 137, 195, 138, 195, 139, 195, 140, 195, 141, 195, 142, 195, 143, 195, 145, 195, 146, 195, 147, 195, 148, 195, 149, 195, 150, 195, 152, 195, 153, 195, 154, 195, 155, 195, 156, 195, 159, 195, 160, 195, 161, 195, 162, 195, 163, 195, 164, 195, 165, 195, 166, 195, 167, 195, 168, 195, 169, 195, 170, 195, 171, 195, 172, 195, 173, 195, 174, 195, 175, 195, 177, 195, 178, 195, 179, 195, 180, 195, 181, 195, 182, 195, 184, 195, 185, 195, 186, 195, 187, 195, 188, 197, 146, 197, 147, 226, 128, 148, 226, 128, 152, 226, 128, 153, 226, 128, 156, 226, 128, 157, 226, 128, 162, 226, 128, 166, 226, 132, 162, 226, 153, 170]⟩
theorem runes_all : runes allStr = repertoire := by decide +kernel

set_option maxRecDepth 100000 in
theorem index_calls (r : Int) (w : World) (h0 : -2147483648 ≤ r) (h1 : r ≤ 2147483647) :
    Calls Tryz.prog 105 #[.int .i32 r] w fun e w' => e = .returned (.int .i64 (idx r)) ∧ Below w.heap.size w w' := by
  by_cases ha : 32 ≤ r ∧ r ≤ 126
  · have hi : idx r = r - 32 := by unfold idx; rw [if_pos ha]
    obtain ⟨a0, a1⟩ := ha
    have HI := Lib.hid hi
    clear hi
    go_enter Tryz.func105, Tryz.ntmps105
    go_wp2
    go_ret
    rw [HI.out]
    exact ⟨rfl, Below.refl _ _⟩
  · have hi : idx r = placeL (runes allStr) r 0 := by unfold idx; rw [if_neg ha, runes_all]
    have HI := Lib.hid hi
    clear hi
    rcases (show r < 32 ∨ 126 < r by omega) with hb | hb
    all_goals
      clear ha
      go_enter Tryz.func105, Tryz.ntmps105
      go_wp2_with fail
      refine (place_calls allStr r _ (by decide +kernel)).mono ?_
      rintro e w1 ⟨rfl, hB⟩
      go_wp2_with fail
      go_ret
      rw [HI.out]
      exact ⟨rfl, hB⟩

end Go.Proofs.YtdgakmpopgpijaaGreatDoor
