/- The contracts of timebase.of, Valid, CanDrop and document.rate: what they return for any rate. -/
import Derived.Test.YtdgakmpopgpijaaGreatDoorProg
import Derived.WalkKit
import Derived.WalkLawsBesides
import Derived.WalkSpells
import Derived.Lib.Hide
import Derived.Outline
import Derived.Deep.WholeRow
set_option linter.unusedVariables false
namespace Go.Proofs.YtdgakmpopgpijaaGreatDoor
open Go.RowKit

/-- The ticks of a rate, and whether it drops. -/
def rateTicks (r : Int) : Int := if r = 1 then 5005 else if r = 2 then 5000 else if r = 3 then 4800 else if r = 4 then 4004 else if r = 5 then 4000 else if r = 6 then 2400 else if r = 7 then 2002 else 0
def rateDrop (r : Int) : Bool := decide (r = 4) || decide (r = 7)

def rateTab : Array Value := #[.string ⟨#[]⟩, .int .i64 0, .int .i64 0, .bool false, .string ⟨#[50, 51, 46, 57, 55, 54]⟩, .int .i64 5005, .int .i64 24, .bool false, .string ⟨#[50, 52]⟩, .int .i64 5000, .int .i64 24, .bool false, .string ⟨#[50, 53]⟩, .int .i64 4800, .int .i64 25, .bool false, .string ⟨#[50, 57, 46, 57, 55]⟩, .int .i64 4004, .int .i64 30, .bool true, .string ⟨#[51, 48]⟩, .int .i64 4000, .int .i64 30, .bool false, .string ⟨#[53, 48]⟩, .int .i64 2400, .int .i64 50, .bool false, .string ⟨#[53, 57, 46, 57, 52]⟩, .int .i64 2002, .int .i64 60, .bool true]
theorem rateTab_one : rateTab.all (·.oneCell') = true := by decide +kernel
theorem rateTab_size : rateTab.size = 32 := rfl
theorem Tryz.size189 : (Tryz.prog.info? 189).map (·.size) = some rateTab.size := by kernel_rfl

/-- A cell of the table. -/
theorem tab_cell (w : World) (o : Obj) (i : Nat) (v : Value) (h : rateTab[i]? = some v) : ((w.alloc o).alloc (.cells rateTab 189)).cell? ⟨w.heap.size + 1, i, none⟩ = some v := by
  have := cell_of_row ((w.alloc o).alloc (.cells rateTab 189)) (w.heap.size + 1) i rateTab 189 (0, 0) (by
    have := heap_alloc_last (w.alloc o) (.cells rateTab 189)
    rwa [World.size_alloc] at this)
  rw [this, h]

theorem setRow_two (w : World) (o : Obj) (c c' : Array Value) (t : TypeId) : ((w.alloc o).alloc (.cells c t)).setRow (w.heap.size + 1) c' = (w.alloc o).alloc (.cells c' t) := by
  have := World.setRow_alloc_new (w.alloc o) c c' t
  rwa [World.size_alloc] at this
theorem heap_two (w : World) (o o' : Obj) : ((w.alloc o).alloc o').heap[w.heap.size + 1]? = some o' := by
  have := heap_alloc_last (w.alloc o) o'
  rwa [World.size_alloc] at this

def OfPost (r : Int) (w : World) (e : Ending) (w' : World) : Prop := ∃ a b, e = .returned (.agg #[.string a, .int .i64 (rateTicks r), .int .i64 b, .bool (rateDrop r)]) ∧ Below w.heap.size w w'

set_option maxHeartbeats 400000 in
theorem of_out (r : Int) (w : World) (h0 : 8 ≤ r) (h1 : r ≤ 255) :
    Calls Tryz.prog 134 #[.int .u8 r] w (OfPost r w) := by
  have ht : rateTicks r = 0 := by unfold rateTicks; repeat rw [if_neg (by omega)]
  have hd : rateDrop r = false := by simp [rateDrop]; omega
  have HT := Lib.hid ht; have HD := Lib.hid hd
  clear ht hd
  go_enter Tryz.func134, Tryz.ntmps134
  go_wp2_with (with_reducible refine wpList_store_row rfl 189 (.tmp 3) (.tmp 12) rfl (w.heap.size + 1) rateTab ?hx ?hy 189 ?old ?hg Tryz.size189 ?ho rateTab_one ?_; rotate_right; rw [setRow_two])
  case hx => rfl
  case hy => rfl
  case hg => exact heap_two _ _ _
  case ho => rfl
  exact bodyPost_ret (v := .agg #[.string ⟨#[]⟩, .int .i64 0, .int .i64 0, .bool false]) (by simp [results, Tryz.results134, go_sem]) rfl
    ⟨⟨#[]⟩, 0, by rw [HT.out, HD.out], ((Below.refl _ _).alloc (Nat.le_refl _) _).alloc (by simp) _⟩

set_option maxHeartbeats 400000 in
theorem of_in (i : Nat) (w : World) (h1 : i < 8) (a : ByteArray) (b : Int)
    (c0 : rateTab[i * 4]? = some (.string a)) (c1 : rateTab[i * 4 + 1]? = some (.int .i64 (rateTicks i))) (c2 : rateTab[i * 4 + 2]? = some (.int .i64 b)) (c3 : rateTab[i * 4 + 3]? = some (.bool (rateDrop i))) :
    Calls Tryz.prog 134 #[.int .u8 i] w (OfPost i w) := by
  have t0 := fun o => tab_cell w o _ _ c0
  have t1 := fun o => tab_cell w o _ _ c1
  have t2 := fun o => tab_cell w o _ _ c2
  have t3 := fun o => tab_cell w o _ _ c3
  clear c0 c1 c2 c3
  have h1' : (i : Int) < 8 := by omega
  go_enter Tryz.func134, Tryz.ntmps134
  go_wp2_with (with_reducible refine wpList_store_row rfl 189 (.tmp 3) (.tmp 12) rfl (w.heap.size + 1) rateTab ?hx ?hy 189 ?old ?hg Tryz.size189 ?ho rateTab_one ?_; rotate_right; rw [setRow_two])
  case hx => rfl
  case hy => rfl
  case hg => exact heap_two _ _ _
  case ho => rfl
  exact bodyPost_ret (v := .agg #[.string a, .int .i64 (rateTicks i), .int .i64 b, .bool (rateDrop i)]) (by simp [results, Tryz.results134, go_sem]) rfl
    ⟨a, b, rfl, ((Below.refl _ _).alloc (Nat.le_refl _) _).alloc (by simp) _⟩

theorem of_calls (r : Int) (w : World) (h0 : 0 ≤ r) (h1 : r ≤ 255) : Calls Tryz.prog 134 #[.int .u8 r] w (OfPost r w) := by
  by_cases h8 : 8 ≤ r
  · exact of_out r w h8 h1
  · have h : ∀ i : Fin 8, ∃ a b, rateTab[i.val * 4]? = some (.string a) ∧ rateTab[i.val * 4 + 1]? = some (.int .i64 (rateTicks i.val)) ∧ rateTab[i.val * 4 + 2]? = some (.int .i64 b) ∧ rateTab[i.val * 4 + 3]? = some (.bool (rateDrop i.val)) := by
      intro i
      match i with
      | 0 => exact ⟨_, _, rfl, rfl, rfl, rfl⟩
      | 1 => exact ⟨_, _, rfl, rfl, rfl, rfl⟩
      | 2 => exact ⟨_, _, rfl, rfl, rfl, rfl⟩
      | 3 => exact ⟨_, _, rfl, rfl, rfl, rfl⟩
      | 4 => exact ⟨_, _, rfl, rfl, rfl, rfl⟩
      | 5 => exact ⟨_, _, rfl, rfl, rfl, rfl⟩
      | 6 => exact ⟨_, _, rfl, rfl, rfl, rfl⟩
      | 7 => exact ⟨_, _, rfl, rfl, rfl, rfl⟩
    obtain ⟨a, b, c0, c1, c2, c3⟩ := h ⟨r.toNat, by omega⟩
    have := of_in r.toNat w (by omega) a b c0 c1 c2 c3
    rwa [Int.toNat_of_nonneg h0] at this

theorem field165_1 (a b c d : Value) (w : World) : (Instr.field 165 (.agg #[a, b, c, d]) 1).run Tryz.prog w = .ok b w := by kernel_rfl
theorem field165_3 (a b c d : Value) (w : World) : (Instr.field 165 (.agg #[a, b, c, d]) 3).run Tryz.prog w = .ok d w := by kernel_rfl
attribute [local go_sem] field165_1 field165_3

/-- Whether a rate is one of the seven. -/
def rateValid (r : Int) : Bool := decide (0 < rateTicks r)

set_option maxRecDepth 100000 in
theorem rateValid_calls (r : Int) (w : World) (h0 : 0 ≤ r) (h1 : r ≤ 255) :
    Calls Tryz.prog 106 #[.int .u8 r] w fun e w' => e = .returned (.bool (rateValid r)) ∧ Below w.heap.size w w' := by
  unfold rateValid
  go_enter Tryz.func106, Tryz.ntmps106
  go_wp2_with fail
  refine (of_calls r _ h0 h1).mono ?_
  rintro e w1 ⟨a, b, rfl, hb⟩
  go_wp2_with fail
  go_ret
  exact ⟨rfl, hb⟩

set_option maxRecDepth 100000 in
theorem rateDrop_calls (r : Int) (w : World) (h0 : 0 ≤ r) (h1 : r ≤ 255) :
    Calls Tryz.prog 107 #[.int .u8 r] w fun e w' => e = .returned (.bool (rateDrop r)) ∧ Below w.heap.size w w' := by
  go_enter Tryz.func107, Tryz.ntmps107
  go_wp2_with fail
  refine (of_calls r _ h0 h1).mono ?_
  rintro e w1 ⟨a, b, rfl, hb⟩
  go_wp2_with fail
  go_ret
  exact ⟨rfl, hb⟩

/-- The error of a rate with or without drop-frame labels. -/
def rateErr (r : Int) (drop : Bool) : Int := if rateValid r && (!drop || rateDrop r) then 0 else 13

theorem rate_calls (r : Int) (drop : Bool) (w : World) (h0 : 0 ≤ r) (h1 : r ≤ 255) :
    Calls Tryz.prog 64 #[.int .u8 r, .bool drop] w fun e w' => e = .returned (.int .i64 (rateErr r drop)) ∧ Below w.heap.size w w' := by
  have hE : rateErr r drop = if rateValid r && (!drop || rateDrop r) then 0 else 13 := rfl
  cases hv : rateValid r
  · rw [hv] at hE
    have HE := Lib.hid hE
    clear hE
    go_enter Tryz.func64, Tryz.ntmps64
    go_wp2_with (go_at_call 106; refine (rateValid_calls _ _ h0 h1).mono ?_; rintro e w1 ⟨rfl, hb⟩)
    go_ret
    rw [HE.out]
    exact ⟨rfl, hb⟩
  · cases drop
    · rw [hv] at hE
      have HE := Lib.hid hE
      clear hE
      go_enter Tryz.func64, Tryz.ntmps64
      go_wp2_with (go_at_call 106; refine (rateValid_calls _ _ h0 h1).mono ?_; rintro e w1 ⟨rfl, hb⟩)
      go_ret
      rw [HE.out]
      exact ⟨rfl, hb⟩
    · cases hd : rateDrop r
      all_goals
        rw [hv, hd] at hE
        have HE := Lib.hid hE
        clear hE
        go_enter Tryz.func64, Tryz.ntmps64
        go_wp2_with (first
          | (go_at_call 106; refine (rateValid_calls _ _ h0 h1).mono ?_; rintro e w1 ⟨rfl, hb⟩)
          | (go_at_call 107; refine (rateDrop_calls _ _ h0 h1).mono ?_; rintro e w2 ⟨rfl, hb2⟩))
        go_ret
        rw [HE.out]
        exact ⟨rfl, hb.trans (hb2.mono hb.size)⟩

end Go.Proofs.YtdgakmpopgpijaaGreatDoor
