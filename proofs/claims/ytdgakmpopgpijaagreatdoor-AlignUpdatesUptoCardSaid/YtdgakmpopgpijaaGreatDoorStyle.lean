/- The contracts of style.Valid, alike and Len: what they return for any runs and rows. -/
import Derived.Test.YtdgakmpopgpijaaGreatDoorPlace
set_option linter.unusedVariables false
namespace Go.Proofs.YtdgakmpopgpijaaGreatDoor
open Go.RowKit

/-- A run of a row. -/
structure Run where
  text : ByteArray
  color : Int
  it : Bool
  un : Bool
  ruby : ByteArray

def Run.enc (x : Run) : List Value := [.string x.text, .int .u8 x.color, .bool x.it, .bool x.un, .string x.ruby]
def Run.fits (x : Run) : Prop := x.text.size ≤ 4000000 ∧ x.ruby.size ≤ 4000000 ∧ 0 ≤ x.color ∧ x.color ≤ 255

/-- A row, with the place of its runs. -/
structure Row where
  at_ : Option Addr
  cap : Nat
  runs : List Run

def Row.enc (r : Row) : List Value := [.slice r.at_ r.runs.length r.cap]
def Runs (w : World) (a : Option Addr) (xs : List Run) : Prop := SliceOf 5 Run.enc Flat w a xs
theorem Runs.later {w w' : World} {a : Option Addr} {xs : List Run} (h : Runs w a xs) (hb : Below w.heap.size w w') : Runs w' a xs := SliceOf.keeps Flat.keeps w w' a xs hb h
def Row.lies (w : World) (r : Row) : Prop := Runs w r.at_ r.runs
theorem Row.keeps : Keeps Row.lies := fun w w' r hb h => Runs.later h hb
/-- The bytes of all texts are few. -/
def sumText : List Run → Nat
  | [] => 0
  | x :: l => x.text.size + sumText l
def Row.fits (r : Row) : Prop := (∀ x ∈ r.runs, x.fits) ∧ r.runs.length ≤ 4000000 ∧ sumText r.runs ≤ 4000000

theorem styleValid_calls (c : Int) (i u : Bool) (w : World) : Calls Tryz.prog 135 #[.agg #[.int .u8 c, .bool i, .bool u]] w fun e w' => e = .returned (.bool (decide (c ≤ 6))) ∧ Below w.heap.size w w' := by
  go_enter Tryz.func135, Tryz.ntmps135
  go_wp2
  go_ret
  exact ⟨rfl, (Below.refl _ _).alloc (Nat.le_refl _) _⟩

/-- Whether two neighbouring runs would be joined. -/
def alikeB (a b : Run) : Bool := (a.color == b.color && a.it == b.it && a.un == b.un) && (a.ruby.toList.isEmpty && b.ruby.toList.isEmpty)

theorem run_styles (c d : Int) (i u j v : Bool) (w : World) : (binOp .eql 83 (.agg #[.int .u8 c, .bool i, .bool u]) (.agg #[.int .u8 d, .bool j, .bool v])).run Tryz.prog w = .ok (.bool (c == d && i == j && u == v)) w := by
  simp [go_sem]
  repeat' split
  all_goals simp_all

set_option maxHeartbeats 800000 in
theorem alike_calls (a b : Run) (w : World) : Calls Tryz.prog 136 #[.agg a.enc.toArray, .agg b.enc.toArray] w fun e w' => e = .returned (.bool (alikeB a b)) ∧ Below w.heap.size w w' := by
  have hA : alikeB a b = ((a.color == b.color && a.it == b.it && a.un == b.un) && (a.ruby.toList.isEmpty && b.ruby.toList.isEmpty)) := rfl
  have hq := run_styles a.color b.color a.it a.un b.it b.un
  obtain ⟨t, c, i, u, r⟩ := a
  obtain ⟨t', c', i', u', r'⟩ := b
  simp only at hA hq
  simp only [Run.enc]
  generalize alikeB ⟨t, c, i, u, r⟩ ⟨t', c', i', u', r'⟩ = A at *
  generalize (c == c' && i == i' && u == u') = S at *
  have hb : ∀ o o', Below w.heap.size w ((w.alloc o).alloc o') := fun o o' => ((Below.refl _ _).alloc (Nat.le_refl _) _).alloc (by simp) _
  cases S
  · rw [Bool.false_and] at hA
    have HA := Lib.hid hA
    clear hA
    go_enter Tryz.func136, Tryz.ntmps136
    go_wp2
    go_ret
    rw [HA.out]
    exact ⟨rfl, hb _ _⟩
  · rw [Bool.true_and] at hA
    by_cases h1 : r.toList = []
    · have h1' : r.toList.isEmpty = true := by simpa using h1
      rw [h1', Bool.true_and] at hA
      by_cases h2 : r'.toList = []
      · have h2' : r'.toList.isEmpty = true := by simpa using h2
        rw [h2'] at hA
        have HA := Lib.hid hA
        clear hA
        go_enter Tryz.func136, Tryz.ntmps136
        go_wp2
        go_ret
        rw [HA.out]
        exact ⟨rfl, hb _ _⟩
      · have h2' : r'.toList.isEmpty = false := by simpa using h2
        rw [h2'] at hA
        have HA := Lib.hid hA
        clear hA
        go_enter Tryz.func136, Tryz.ntmps136
        go_wp2
        go_ret
        rw [HA.out]
        exact ⟨rfl, hb _ _⟩
    · have h1' : r.toList.isEmpty = false := by simpa using h1
      rw [h1', Bool.false_and] at hA
      have HA := Lib.hid hA
      clear hA
      go_enter Tryz.func136, Tryz.ntmps136
      go_wp2
      go_ret
      rw [HA.out]
      exact ⟨rfl, hb _ _⟩

end Go.Proofs.YtdgakmpopgpijaaGreatDoor
