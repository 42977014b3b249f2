/- The contract of captionerlaw25.awake: it returns true. -/
import Derived.Test.YtmihfgmiphleeaaCodes
namespace Go.Proofs.Ytmihfgmiphleeaa
open Go.ChangeShapes Go.WideShapes Go.ChangeAt Go.RowKit

theorem Made.cells {f : Int → Int} {zs : List Int} {w wr : World} (h : Made f zs w zs.length wr) :
    ∀ i, i < zs.length → wr.cell? ⟨w.heap.size, 0 + i, none⟩ = some (.int .u8 ((zs.map f).getD i 0)) := by
  obtain ⟨xs, ho, hp, hb⟩ := h
  intro i hi
  rw [Nat.zero_add, ho.cellAt i (by omega), hp.all]
  simp [hi]

theorem Made.below {f : Int → Int} {zs : List Int} {w wr : World} {k : Nat} (h : Made f zs w k wr) : Below w.heap.size w wr := by
  obtain ⟨xs, ho, hp, hb⟩ := h
  exact hb

/-- A slice of one number, owned: its shape and its cell. -/
theorem owns_one {w : World} {base : Nat} {v : Value} {x : Value} (h : w.ownsRow base 3 1 v 1 [x]) :
    ∃ g cap, v = .slice (some ⟨g, 0, none⟩) 1 cap ∧ base ≤ g ∧ w.cell? ⟨g, 0, none⟩ = some x := by
  have h' := h
  rcases h.2 with ⟨_, h0⟩ | ⟨g, cap, cur, rfl, hb, _⟩
  · simp at h0
  · exact ⟨g, cap, rfl, hb, by rw [h'.cellAt 0 (by simp)]; rfl⟩

set_option maxHeartbeats 400000 in
theorem awake_calls (w : World) : Calls Try.prog 8 #[] w fun e w' => e = .returned (.bool true) ∧ Below w.heap.size w w' := by
  have e1 : odd 193 = true := by decide +kernel
  have e2 : low 193 = 65 := by decide +kernel
  have e3 : addP 65 = 193 := by decide +kernel
  have hB : Bytes [148, 44, 65] := by unfold Bytes; decide
  have hH : Holds .u8 (w.alloc (.cells #[.int .u8 148, .int .u8 44, .int .u8 65] 5)) (some ⟨w.heap.size, 0, none⟩) [148, 44, 65] := by
    refine .inr ⟨w.heap.size, 0, rfl, by simp, fun i hi => ?_⟩
    simp only [List.length_cons, List.length_nil] at hi
    rcases (by omega : i = 0 ∨ i = 1 ∨ i = 2) with rfl | rfl | rfl <;> simp
  go_enter Try.func8, Try.ntmps8
  go_wp2_with (first
    | (go_at_call 9; refine (strip_calls _ _ (by omega) (by omega)).mono ?_; rintro e w' ⟨rfl, rfl⟩)
    | fail)
  refine (decode_calls _ 3 [148, 44, 65] _ hH (by simp) hB).mono ?_
  rintro e w1 ⟨v, rfl, hM, hO⟩
  have hcv := run_convert_bytes_arg (P := Try.prog) w1 28 5 Try.underlying28 Try.underlying5 _ 0 3 3 _ rfl hM.cells 9 Try.underlying9
  have hbel : Below w.heap.size w w1 := ((Below.refl _ _).alloc (Nat.le_refl _) _).trans (hM.below.mono (by simp))
  rw [show bads [148, 44, 65] ([148, 44, 65] : List Int).length = [2] by decide +kernel] at hO
  have hO' : w1.ownsRow _ 3 1 v 1 [.int .i64 2] := hO
  obtain ⟨g, cap, rfl, hg, hcell⟩ := owns_one hO'
  rw [show strOfNums ([148, 44, 65].map low) = ⟨#[20, 44, 65]⟩ by decide +kernel] at hcv
  simp only [World.size_alloc] at hcv
  clear hH hB hM hO hO' hg
  go_wp2_with (first
    | (go_at_call 13; refine (add_calls _ _ (by omega) (by omega)).mono ?_; rintro e w' ⟨rfl, rfl⟩)
    | fail)
  go_ret
  exact ⟨rfl, hbel⟩
end Go.Proofs.Ytmihfgmiphleeaa
