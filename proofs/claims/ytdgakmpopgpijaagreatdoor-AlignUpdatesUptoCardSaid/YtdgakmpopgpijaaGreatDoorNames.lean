/- The contract of lines.Name: what it returns for any string. -/
import Derived.Test.YtdgakmpopgpijaaGreatDoorProg
import Derived.WalkKit
import Derived.WalkLawsBesides
import Derived.WalkSpells
import Derived.Lib.Hide
import Derived.Outline
set_option linter.unusedVariables false
namespace Go.Proofs.YtdgakmpopgpijaaGreatDoor
open Go.RowKit

def nameByte (c : Nat) : Bool := decide (65 ≤ c ∧ c ≤ 90) || decide (48 ≤ c ∧ c ≤ 57) || decide (c = 95) || decide (c = 45)
theorem nb_yes (c : Nat) (h : (65 ≤ c ∧ c ≤ 90) ∨ (48 ≤ c ∧ c ≤ 57) ∨ c = 95 ∨ c = 45) : nameByte c = true := by
  simp only [nameByte, Bool.or_eq_true, decide_eq_true_eq]; omega
theorem nb_no (c : Nat) (h : ¬ ((65 ≤ c ∧ c ≤ 90) ∨ (48 ≤ c ∧ c ≤ 57) ∨ c = 95 ∨ c = 45)) : nameByte c = false := by
  simp only [nameByte, Bool.or_eq_false_iff, decide_eq_false_iff_not]; omega
/-- Whether a string is a name. -/
def nameB (s : ByteArray) : Bool := decide (1 ≤ s.size) && decide (s.size ≤ 16) && decide (65 ≤ (s.data.toList.headD 0).toNat) && decide ((s.data.toList.headD 0).toNat ≤ 90) && s.data.toList.all (fun c => nameByte c.toNat)

theorem head_byte (s : ByteArray) (h : 0 < s.size) : s.data.toList.headD 0 = s[0] := by
  have hl : 0 < s.data.toList.length := by simpa using h
  cases hs : s.data.toList with
  | nil => rw [hs] at hl; simp at hl
  | cons c l =>
    have e : s[0] = s.data.toList[0] := by rfl
    rw [e]
    simp [hs]

def okTo (s : ByteArray) (k : Nat) : Prop := (s.data.toList.take k).all (fun c => nameByte c.toNat) = true

theorem okTo_zero (s : ByteArray) : okTo s 0 := by simp [okTo]
theorem okTo_succ (s : ByteArray) (k : Nat) (h : k < s.size) (ho : okTo s k) (hb : nameByte s[k].toNat = true) : okTo s (k + 1) := by
  have hl : k < s.data.toList.length := by simpa using h
  unfold okTo at *
  rw [List.take_succ_eq_append_getElem hl, List.all_append, ho]
  have e : s.data.toList[k] = s[k] := rfl
  simp [e, hb]
theorem name_yes (s : ByteArray) (h1 : 1 ≤ s.size) (h2 : s.size ≤ 16) (h3 : 65 ≤ s[0].toNat) (h4 : s[0].toNat ≤ 90) (ho : okTo s s.size) : nameB s = true := by
  unfold okTo at ho
  rw [List.take_of_length_le (by simp)] at ho
  simp only [nameB, head_byte s h1, h1, h2, h3, h4, ho, decide_true, Bool.and_true]
theorem name_no (s : ByteArray) (k : Nat) (h : k < s.size) (hb : nameByte s[k].toNat = false) : nameB s = false := by
  have hm : s[k] ∈ s.data.toList := List.getElem_mem (l := s.data.toList) (by simpa using h)
  have : s.data.toList.all (fun c => nameByte c.toNat) = false := by
    rw [List.all_eq_false]
    exact ⟨s[k], hm, by simp [hb]⟩
  simp [nameB, this]

set_option maxHeartbeats 800000 in
theorem name_calls (s : ByteArray) (w : World) (hs : s.size ≤ 4000000) :
    Calls Tryz.prog 63 #[.string s] w fun e w' => e = .returned (.bool (nameB s)) ∧ w = w' := by
  by_cases h1 : s.size < 1
  · have hn : nameB s = false := by simp [nameB, show ¬ 1 ≤ s.size by omega]
    have HN := Lib.hid hn; clear hn
    go_enter Tryz.func63, Tryz.ntmps63
    go_wp2
    go_ret
    rw [HN.out]; exact ⟨rfl, rfl⟩
  by_cases h2 : 16 < s.size
  · have hn : nameB s = false := by simp [nameB, show ¬ s.size ≤ 16 by omega]
    have HN := Lib.hid hn; clear hn
    go_enter Tryz.func63, Tryz.ntmps63
    go_wp2
    go_ret
    rw [HN.out]; exact ⟨rfl, rfl⟩
  have hp : 0 < s.size := by omega
  by_cases h3 : s[0].toNat < 65
  · have hn : nameB s = false := by simp only [nameB, head_byte s hp, show ¬ 65 ≤ s[0].toNat by omega, decide_false, Bool.and_false, Bool.false_and]
    have HN := Lib.hid hn; clear hn
    go_enter Tryz.func63, Tryz.ntmps63
    go_wp2
    go_ret
    rw [HN.out]; exact ⟨rfl, rfl⟩
  by_cases h4 : 90 < s[0].toNat
  · have hn : nameB s = false := by simp only [nameB, head_byte s hp, show ¬ s[0].toNat ≤ 90 by omega, decide_false, Bool.and_false, Bool.false_and]
    have HN := Lib.hid hn; clear hn
    go_enter Tryz.func63, Tryz.ntmps63
    go_wp2
    go_ret
    rw [HN.out]; exact ⟨rfl, rfl⟩
  have HY := Lib.hid (name_yes s (by omega) (by omega) (by omega) (by omega))
  go_enter Tryz.func63, Tryz.ntmps63
  go_wp2
  go_loop [25] (fun i => ∃ k : Nat, k ≤ s.size ∧ i = .int .i64 k ∧ okTo s k) (fun i => s.size - (intOf i).toNat)
  case atStart => exact ⟨0, by omega, rfl, okTo_zero s⟩
  case round =>
    obtain ⟨k, hk, rfl, hok⟩ := hrel
    by_cases hlt : k < s.size
    · have hN := Lib.hid (name_no s k hlt)
      have hS := Lib.hid (okTo_succ s k hlt hok)
      have hb := s[k].toNat_lt
      go_wp2
      all_goals first
        | (go_round
           case rel => exact ⟨k + 1, by omega, by go_num, hS.out (nb_yes _ (by first | omega | (simp only [bne_eq_false_iff_eq] at *; omega)))⟩
           case measure => simp [intOf]; omega)
        | (go_ret
           rw [hN.out (nb_no _ (by first | omega | (simp only [bne_iff_ne, ne_eq] at *; omega)))]
           exact ⟨rfl, rfl⟩)
    · obtain rfl : k = s.size := by omega
      go_wp2
      go_ret
      rw [HY.out hok]; exact ⟨rfl, rfl⟩

end Go.Proofs.YtdgakmpopgpijaaGreatDoor
