/- The contracts of charset.place and charset.Index: what they return for any string and character. -/
import Derived.Test.YtdgakmpopgpijaaGreatDoorProg
import Derived.WalkKit
import Derived.WalkLawsBesides
import Derived.WalkSpells
import Derived.Lib.Hide
import Derived.Outline
import Derived.Laws.RangeAny
import Derived.Laws.RangeString
set_option linter.unusedVariables false
namespace Go.Proofs.YtdgakmpopgpijaaGreatDoor
open Go.RowKit

/-- The characters of a string from a place on, as a range over it gives them. -/
def runesF (s : ByteArray) : Nat → Nat → List Nat
  | 0, _ => []
  | b + 1, pos => if pos < s.size then (Utf8.decode s pos).1 :: runesF s b (pos + (Utf8.decode s pos).2) else []
def runes (s : ByteArray) : List Nat := runesF s s.size 0

theorem runesF_end (s : ByteArray) (b pos : Nat) (h : ¬ pos < s.size) : runesF s b pos = [] := by
  cases b <;> simp [runesF, h]
theorem runesF_next (s : ByteArray) (b pos : Nat) (h : pos < s.size) (hb : s.size ≤ pos + b) : ∃ c, b = c + 1 ∧ runesF s b pos = (Utf8.decode s pos).1 :: runesF s c (pos + (Utf8.decode s pos).2) := by
  cases b with
  | zero => omega
  | succ c => exact ⟨c, rfl, by simp [runesF, h]⟩

theorem width_pos (s : ByteArray) (pos : Nat) (h : pos < s.size) : 1 ≤ (Utf8.decode s pos).2 := by
  by_cases ha : (s[pos]'h).toNat < 128
  · rw [decode_ascii s pos h ha]
    exact Nat.le_refl _
  · exact (decode_high s pos h (by omega)).2

/-- The index of a character in a list, counted from n on; -1: it is not there. -/
def placeL : List Nat → Int → Int → Int
  | [], _, _ => -1
  | x :: l, r, n => if (x : Int) = r then n else placeL l r (n + 1)

theorem placeL_yes (l : List Nat) (x : Nat) (r n : Int) (h : (x : Int) = r) : placeL (x :: l) r n = n := by simp [placeL, h]
theorem placeL_no (l : List Nat) (x : Nat) (r n : Int) (h : ¬ (x : Int) = r) : placeL (x :: l) r n = placeL l r (n + 1) := by simp [placeL, h]

theorem place_calls (s : ByteArray) (r : Int) (w : World) (hs : s.size ≤ 4000000) :
    Calls Tryz.prog 133 #[.string s, .int .i32 r] w fun e w' => e = .returned (.int .i64 (placeL (runes s) r 0)) ∧ Below w.heap.size w w' := by
  generalize hG : placeL (runes s) r 0 = G
  have hG0 : placeL (runesF s s.size 0) r 0 = G := hG
  have H0 := Lib.hid hG0
  clear hG hG0
  go_enter Tryz.func133, Tryz.ntmps133
  go_wp2
  go_loopw [5] (fun n w' => ∃ (pos b : Nat) (k : Nat), w' = w.iter s pos ∧ n = .int .i64 k ∧ placeL (runesF s b pos) r k = G ∧ s.size ≤ pos + b ∧ k ≤ pos ∧ k ≤ s.size) (fun _ w' => s.size - w'.iterPos w.heap.size)
  case atStart => exact ⟨0, s.size, 0, rfl, rfl, H0.out, by omega, by omega, by omega⟩
  case round =>
    obtain ⟨pos, b, k, rfl, rfl, hp, hb, hk, hk2⟩ := hrel
    by_cases hlt : pos < s.size
    · obtain ⟨c, rfl, hn⟩ := runesF_next s b pos hlt hb
      have hwd := width_pos s pos hlt
      have hnx : ∀ ty, (Instr.next (.pointer (some ⟨w.heap.size, 0, none⟩)) true ty).run Tryz.prog (w.iter s pos) = _ := fun ty => run_next_any w s pos ty hlt
      rw [hn] at hp
      by_cases he : ((Utf8.decode s pos).1 : Int) = r
      · rw [placeL_yes _ _ _ _ he] at hp
        have hbe : (((Utf8.decode s pos).1 : Int) == r) = true := by simpa using he
        have HP := Lib.hid hp
        clear hp hn he H0
        go_wp2
        go_ret
        exact ⟨by rw [← HP.out]; rfl, (Below.refl _ _).alloc (Nat.le_refl _) _⟩
      · rw [placeL_no _ _ _ _ he] at hp
        have hbe : (((Utf8.decode s pos).1 : Int) == r) = false := by simpa using he
        have HP := Lib.hid hp
        clear hp hn he H0
        go_wp2
        go_roundw
        case rel => exact ⟨pos + (Utf8.decode s pos).2, c, k + 1, rfl, by go_num, HP.out, by omega, by omega, by omega⟩
        case measure => simp; omega
    · have hnx : ∀ ty, (Instr.next (.pointer (some ⟨w.heap.size, 0, none⟩)) true ty).run Tryz.prog (w.iter s pos) = _ := fun ty => run_next_end w s pos ty hlt
      rw [runesF_end s b pos hlt] at hp
      have HP := Lib.hid hp
      clear hp H0
      go_wp2
      go_ret
      exact ⟨by rw [← HP.out]; rfl, (Below.refl _ _).alloc (Nat.le_refl _) _⟩

end Go.Proofs.YtdgakmpopgpijaaGreatDoor
