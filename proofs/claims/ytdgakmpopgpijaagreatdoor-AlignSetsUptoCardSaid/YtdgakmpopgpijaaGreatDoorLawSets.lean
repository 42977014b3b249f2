/- The contract of the law AlignSets: it returns true. -/
import Derived.Test.YtdgakmpopgpijaaGreatDoorDrop
import Derived.Test.YtdgakmpopgpijaaGreatDoorLawStays
set_option linter.unusedVariables false
namespace Go.Proofs.YtdgakmpopgpijaaGreatDoor
open Go.RowKit

/-- The links that are returned: none where there is an error. -/
def linksOr (E : Int) (ys : List Lk) : List Lk := if E = 0 then ys else []
theorem SetPost.get {E : Int} {ys : List Lk} {w w' : World} {e : Ending} (h : SetPost E ys w e w') : ∃ a c, e = .returned (.tuple #[.slice a (linksOr E ys).length c, .int .i64 E]) ∧ LksAt w' a (linksOr E ys) ∧ Below w.heap.size w w' := by
  obtain ⟨⟨v, rfl, h1, h2⟩, hb⟩ := h
  unfold linksOr
  by_cases hE : E = 0
  · obtain ⟨a, c, rfl, hy⟩ := h2 hE
    rw [if_pos hE]
    exact ⟨a, c, rfl, hy, hb⟩
  · obtain rfl := h1 hE
    rw [if_neg hE]
    exact ⟨none, 0, rfl, .inl rfl, hb⟩
theorem linksOr_len (E : Int) (ys : List Lk) : (linksOr E ys).length ≤ ys.length := by
  unfold linksOr
  split
  · exact Nat.le_refl _
  · exact Nat.zero_le _
theorem dropLks_le (xs : List Lk) (k : Nat) : (dropLks xs k).length ≤ xs.length := by
  unfold dropLks
  simp
  omega

set_option maxRecDepth 100000 in
set_option maxHeartbeats 3200000 in
theorem setsLaw_calls (a : Option Addr) (cap : Nat) (xs : List Lk) (id tgt : Int) (w : World) (hE : Env w) (hx : LksAt w a xs) (hfx : ∀ x ∈ xs, x.fits) (hlx : xs.length ≤ 2000000) (hcap : xs.length ≤ cap) :
    Calls Tryz.prog 6 #[.slice a xs.length cap, .int .i64 id, .int .i64 tgt] w fun e w' => e = .returned (.bool true) ∧ Below w.heap.size w w' := by
  have HAW := Lib.hid (fun (w1 : World) (h : Below w.heap.size w w1) => awake_calls w1 (hE.below h (Nat.le_refl _)))
  have hb0 : Below w.heap.size w w := Below.refl _ _
  have hS1 := fun (w1 : World) (h : Below w.heap.size w w1) => (set_calls a cap xs id tgt w1 (hx.later h) hfx (by omega)).mono (fun e w' h => h.get)
  have hS2 := fun (w1 : World) (h : Below w.heap.size w w1) => (refSet_calls a cap xs id tgt w1 (hx.later h) hfx (by omega) hcap).mono (fun e w' h => h.get)
  have hD1 := fun (w1 : World) (h : Below w.heap.size w w1) => (drop_calls a cap xs id w1 (hx.later h) hfx (by omega)).mono (fun e w' h => h.get)
  have hD2 := fun (w1 : World) (h : Below w.heap.size w w1) => (refDrop_calls a cap xs id w1 (hx.later h) hfx (by omega) hcap).mono (fun e w' h => h.get)
  have hl1 := Nat.le_trans (linksOr_len (setErr xs id tgt) (setLks xs (posOf (hasTpl id) xs).toNat tgt)) (Nat.le_of_eq (setLks_len _ _ _))
  have hl2 := Nat.le_trans (linksOr_len (dropErr xs id) (dropLks xs (posOf (hasTpl id) xs).toNat)) (dropLks_le _ _)
  generalize linksOr (setErr xs id tgt) (setLks xs (posOf (hasTpl id) xs).toNat tgt) = Y1 at *
  generalize linksOr (dropErr xs id) (dropLks xs (posOf (hasTpl id) xs).toNat) = Y2 at *
  generalize setErr xs id tgt = E1 at *
  generalize dropErr xs id = E2 at *
  have HS1 := Lib.hid hS1; have HS2 := Lib.hid hS2; have HD1 := Lib.hid hD1; have HD2 := Lib.hid hD2
  have HM1 := Lib.hid (fun (a a' : Option Addr) (c c' : Nat) (w1 : World) (h : LksAt w1 a Y1) (h' : LksAt w1 a' Y1) => same_links a a' c c' Y1 Y1 w1 h h' (by omega))
  have HM2 := Lib.hid (fun (a a' : Option Addr) (c c' : Nat) (w1 : World) (h : LksAt w1 a Y2) (h' : LksAt w1 a' Y2) => same_links a a' c c' Y2 Y2 w1 h h' (by omega))
  have HT := Lib.hid (fun (w2 w3 : World) (h : Below w.heap.size w w2) (h3 : Below w2.heap.size w2 w3) => (h.trans (h3.mono h.size) : Below w.heap.size w w3))
  have e1 : (E1 != E1) = false := by simp
  have e2 : (E2 == E2) = true := by simp
  have y1 : decide (Y1 = Y1) = true := by simp
  have y2 : decide (Y2 = Y2) = true := by simp
  rw [y1] at HM1
  rw [y2] at HM2
  have HQ := Lib.hid (fun w' (hb : Below w.heap.size w w') => (show (fun (e : Ending) w' => e = .returned (.bool true) ∧ Below w.heap.size w w') (.returned (.bool true)) w' from ⟨rfl, hb⟩))
  generalize (fun (e : Ending) w' => e = .returned (.bool true) ∧ Below w.heap.size w w') = Q at *
  clear hS1 hS2 hD1 hD2 hE hx hfx y1 y2
  go_enter Tryz.func6, Tryz.ntmps6
  go_wp2_with fail
  refine (HAW.out _ hb0).mono ?_
  rintro e w1 ⟨rfl, hb1⟩
  have hc1 := HT.out _ _ hb0 hb1
  clear hb1
  go_wp2_with fail
  refine (HS1.out _ hc1).mono ?_
  rintro e w2 ⟨a2, k2, rfl, hy2, hb2⟩
  have hc2 := HT.out _ _ hc1 hb2
  clear hb2
  have HY2 := Lib.hid hy2
  clear hy2
  go_wp2_with fail
  refine (HS2.out _ hc2).mono ?_
  rintro e w3 ⟨a3, k3, rfl, hy3, hb3⟩
  have hc3 := HT.out _ _ hc2 hb3
  have HM := Lib.hid (HM1.out a2 a3 k2 k3 w3 (HY2.out.later hb3) hy3)
  clear hb3 hy3
  go_wp2_with fail
  refine HM.out.mono ?_
  rintro e w4 ⟨rfl, hb4⟩
  have hc4 := HT.out _ _ hc3 hb4
  clear hb4
  go_wp2_with fail
  refine (HD1.out _ hc4).mono ?_
  rintro e w5 ⟨a5, k5, rfl, hy5, hb5⟩
  have hc5 := HT.out _ _ hc4 hb5
  clear hb5
  have HY5 := Lib.hid hy5
  clear hy5
  go_wp2_with fail
  refine (HD2.out _ hc5).mono ?_
  rintro e w6 ⟨a6, k6, rfl, hy6, hb6⟩
  have hc6 := HT.out _ _ hc5 hb6
  have HMM := Lib.hid (HM2.out a5 a6 k5 k6 w6 (HY5.out.later hb6) hy6)
  clear hb6 hy6
  go_wp2_with fail
  refine HMM.out.mono ?_
  rintro e w7 ⟨rfl, hb7⟩
  have hc7 := HT.out _ _ hc6 hb7
  clear hb7
  go_wp2_with fail
  exact HQ.out _ hc7

end Go.Proofs.YtdgakmpopgpijaaGreatDoor
