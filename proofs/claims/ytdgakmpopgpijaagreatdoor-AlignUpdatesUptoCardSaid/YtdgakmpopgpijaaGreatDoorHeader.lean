/- The contract of document.header: the first error of a document's header. -/
import Derived.Test.YtdgakmpopgpijaaGreatDoorNames
import Derived.Test.YtdgakmpopgpijaaGreatDoorValid
import Derived.Test.YtdgakmpopgpijaaGreatDoorRate
set_option linter.unusedVariables false
namespace Go.Proofs.YtdgakmpopgpijaaGreatDoor
open Go.RowKit

theorem ret_int {k : IntKind} {a b : Int} (h : a = b) : Ending.returned (.int k a) = .returned (.int k b) := by rw [h]

theorem val_pos {c : Prop} [Decidable c] {v a b : Int} (h : c) (h2 : v = a) : v = if c then a else b := by rw [if_pos h, h2]
theorem val_neg {c : Prop} [Decidable c] {v a b : Int} (h : ¬ c) (h2 : v = b) : v = if c then a else b := by rw [if_neg h, h2]

/-- The first error of a header. -/
def headErr (t l : ByteArray) (r : Int) (d : Bool) (last : Int) : Int :=
  if (!validB t) = true then 10 else if 400 < t.size then 9 else if (!l.toList.isEmpty) = true ∧ (!nameB l) = true then 5 else if (rateErr r d != 0) = true then rateErr r d else if last < 0 ∨ 1099511627776 < last then 2 else 0

theorem size_toList (l : ByteArray) : l.toList.length = l.size := by
  rw [Lib.toList_data]
  simp
theorem empty_str (l : ByteArray) : l.size = 0 ↔ l.toList = [] := by
  have := size_toList l
  constructor
  · intro h
    exact List.eq_nil_of_length_eq_zero (by omega)
  · intro h
    rw [h] at this
    simpa using this.symm

/-- A block that holds cells, in every later world. -/
theorem box_cell (w : World) (cs : Array Value) (t : TypeId) (j : Nat) (v : Value) (h : cs[j]? = some v) (w' : World) (hb : Below (w.heap.size + 1) (w.alloc (.cells cs t)) w') : w'.cell? ⟨w.heap.size, j, none⟩ = some v := by
  rw [hb.cell (p := ⟨w.heap.size, j, none⟩) (by simp)]
  rw [cell_of_row _ _ j cs t (0, 0) (heap_alloc_last w _), h]
theorem box_below {w w' : World} {o : Obj} (hb : Below (w.heap.size + 1) (w.alloc o) w') : Below w.heap.size w w' :=
  ((Below.refl _ _).alloc (Nat.le_refl _) _).trans (hb.mono (by omega))

set_option maxHeartbeats 1600000 in
theorem header_calls (t l : ByteArray) (r : Int) (d : Bool) (last : Int) (a5 a6 a7 : Option Addr) (n5 n6 n7 c5 c6 c7 : Nat) (w : World) (hE : Env w) (ht : t.size ≤ 4000000) (hl : l.size ≤ 4000000) (h0 : 0 ≤ r) (h1 : r ≤ 255) :
    Calls Tryz.prog 38 #[.agg #[.string t, .string l, .int .u8 r, .bool d, .int .i64 last, .slice a5 n5 c5, .slice a6 n6 c6, .slice a7 n7 c7]] w fun e w' => e = .returned (.int .i64 (headErr t l r d last)) ∧ Below w.heap.size w w' := by
  generalize hG : headErr t l r d last = G
  unfold headErr at hG
  have HG := Lib.hid hG
  clear hG
  generalize hcs : #[Value.string t, .string l, .int .u8 r, .bool d, .int .i64 last, .slice a5 n5 c5, .slice a6 n6 c6, .slice a7 n7 c7] = cs
  have f0 := box_cell w cs 28 0 (.string t) (by rw [← hcs]; rfl)
  have f1 := box_cell w cs 28 1 (.string l) (by rw [← hcs]; rfl)
  have f2 := box_cell w cs 28 2 (.int .u8 r) (by rw [← hcs]; rfl)
  have f3 := box_cell w cs 28 3 (.bool d) (by rw [← hcs]; rfl)
  have f4 := box_cell w cs 28 4 (.int .i64 last) (by rw [← hcs]; rfl)
  have HE := Lib.hid (fun (w1 : World) (h : Below (w.heap.size + 1) (w.alloc (.cells cs 28)) w1) => hE.below (box_below h) (Nat.le_refl _))
  have HB := Lib.hid (fun (w1 : World) (h : Below (w.heap.size + 1) (w.alloc (.cells cs 28)) w1) => box_below h)
  have hb0 : Below (w.heap.size + 1) (w.alloc (.cells cs 28)) (w.alloc (.cells cs 28)) := Below.refl _ _
  have hsz : (w.alloc (.cells cs 28)).heap.size = w.heap.size + 1 := World.size_alloc _ _
  generalize hW0 : w.alloc (.cells cs 28) = W0 at *
  have HW0 := Lib.hid hW0
  have HSZ := Lib.hid hsz
  clear hW0 hsz hE
  go_enter Tryz.func38, Tryz.ntmps38
  subst hcs
  go_wp2_with fail
  rw [HW0.out]
  refine (valid_calls t _ ht (HE.out _ hb0)).mono ?_
  rintro e w1 ⟨rfl, hb1⟩
  rw [HSZ.out] at hb1
  clear HW0
  go_wp2_with (first
    | (go_at_call 63; refine (name_calls _ _ (by assumption)).mono ?_; rintro e w2 ⟨rfl, rfl⟩)
    | (go_at_call 64; refine (rate_calls _ _ _ (by assumption) (by assumption)).mono ?_; rintro e w3 ⟨rfl, hb3⟩; replace hb3 : Below (w.heap.size + 1) W0 w3 := hb1.trans (hb3.mono (by have := hb1.size; rw [HSZ.out] at this; exact this))))
  all_goals
    go_ret
    refine ⟨ret_int ?_, HB.out _ (by first | exact hb3 | exact hb1)⟩
    rw [← HG.out]
    clear f0 f1 f2 f3 f4
    repeat (first
      | rfl
      | (refine val_pos ?_ ?_; focus (first | assumption | omega | (simp only [*]; decide) | (simp_all <;> fail)))
      | (refine val_neg ?_ ?_; focus (first | omega | (simp only [*]; decide) | (simp_all <;> fail))))

end Go.Proofs.YtdgakmpopgpijaaGreatDoor
