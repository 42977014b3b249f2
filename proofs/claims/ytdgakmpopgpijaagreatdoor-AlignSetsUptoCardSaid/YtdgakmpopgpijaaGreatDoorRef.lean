/- The contracts of the reference's Find and aimed: where a link of a template lies; whether an event is a link's target. -/
import Derived.Test.YtdgakmpopgpijaaGreatDoorCheck2
set_option linter.unusedVariables false
namespace Go.Proofs.YtdgakmpopgpijaaGreatDoor
open Go.RowKit

theorem posFrom_at {α : Type} (p : α → Bool) (xs : List α) (k : Nat) (x : α) (h : xs[k]? = some x) : posFrom p (xs.drop k) k = if p x = true then (k : Int) else posFrom p (xs.drop (k + 1)) (k + 1) := by
  rw [drop_at xs k x h, posFrom]

set_option maxHeartbeats 800000 in
theorem refFind_calls (a : Option Addr) (cap : Nat) (xs : List Lk) (id : Int) (w : World) (hr : LksAt w a xs) (hl : xs.length ≤ 4000000) :
    Calls Tryz.prog 15 #[.slice a xs.length cap, .int .i64 id] w fun e w' => e = .returned (.int .i64 (posOf (hasTpl id) xs)) ∧ Below w.heap.size w w' := by
  generalize hG : posOf (hasTpl id) xs = G
  have H0 := Lib.hid (show posFrom (hasTpl id) (xs.drop 0) 0 = G from hG)
  clear hG
  go_enter Tryz.func15, Tryz.ntmps15
  go_wp2_with fail
  go_loopw [9] (fun i wr => ∃ k : Nat, k ≤ xs.length ∧ i = .int .i64 k ∧ posFrom (hasTpl id) (xs.drop k) k = G ∧ Below w.heap.size w wr) (fun i _ => xs.length - (intOf i).toNat)
  case atStart => exact ⟨0, by omega, rfl, H0.out, Below.refl _ _⟩
  case round =>
    obtain ⟨k, hk, rfl, hp, hb⟩ := hrel
    by_cases hlt : k < xs.length
    · obtain ⟨b, off, x, rfl, hbl, hx, hc, _⟩ := (hr.later hb).at_ hlt
      rw [posFrom_at _ xs k x hx] at hp
      obtain ⟨tpl, tgt, st⟩ := x
      have d0 := hc 0 _ rfl; have d1 := hc 1 _ rfl; have d2 := hc 2 _ rfl
      simp only [Nat.add_zero] at d0 d1 d2
      have HB := Lib.hid (fun o => hb.alloc hb.size o)
      by_cases ht : tpl = id
      · subst ht
        rw [if_pos (by simp [hasTpl])] at hp
        have HP := Lib.hid hp
        clear hc hx hp H0
        go_wp2_with fail
        go_ret
        exact ⟨ret_int HP.out, HB.out _⟩
      · have ht' : (tpl == id) = false := by simpa using ht
        rw [if_neg (by simp [hasTpl, ht])] at hp
        have HP := Lib.hid hp
        clear hc hx hp H0 ht
        go_wp2_with fail
        go_roundw
        case rel => exact ⟨k + 1, by omega, by go_num, HP.out, HB.out _⟩
        case measure => simp [intOf]; omega
    · obtain rfl : k = xs.length := by omega
      rw [List.drop_length] at hp
      have HP := Lib.hid hp
      clear hp H0
      go_wp2_with fail
      go_ret
      exact ⟨ret_int (by rw [← HP.out]; rfl), hb⟩

def aimB (id : Int) (xs : List Lk) : Bool := xs.any (fun x => x.tgt == id)
set_option maxHeartbeats 800000 in
theorem aimed_calls (a : Option Addr) (cap : Nat) (xs : List Lk) (id : Int) (w : World) (hr : LksAt w a xs) (hl : xs.length ≤ 4000000) :
    Calls Tryz.prog 44 #[.slice a xs.length cap, .int .i64 id] w fun e w' => e = .returned (.bool (aimB id xs)) ∧ Below w.heap.size w w' := by
  generalize hG : aimB id xs = G
  have H0 := Lib.hid (show aimB id (xs.drop 0) = G from hG)
  clear hG
  go_enter Tryz.func44, Tryz.ntmps44
  go_wp2_with fail
  go_loopw [9] (fun i wr => ∃ k : Nat, k ≤ xs.length ∧ i = .int .i64 k ∧ aimB id (xs.drop k) = G ∧ Below w.heap.size w wr) (fun i _ => xs.length - (intOf i).toNat)
  case atStart => exact ⟨0, by omega, rfl, H0.out, Below.refl _ _⟩
  case round =>
    obtain ⟨k, hk, rfl, hp, hb⟩ := hrel
    by_cases hlt : k < xs.length
    · obtain ⟨b, off, x, rfl, hbl, hx, hc, _⟩ := (hr.later hb).at_ hlt
      rw [drop_at xs k x hx, aimB, List.any_cons] at hp
      obtain ⟨tpl, tgt, st⟩ := x
      have d0 := hc 0 _ rfl; have d1 := hc 1 _ rfl; have d2 := hc 2 _ rfl
      simp only [Nat.add_zero] at d0 d1 d2
      have HB := Lib.hid (fun o => hb.alloc hb.size o)
      simp only at hp
      by_cases ht : tgt = id
      · have HP := Lib.hid hp
        subst ht
        clear hc hx hp H0
        go_wp2_with fail
        go_ret
        exact ⟨by rw [← HP.out]; simp, HB.out _⟩
      · have ht' : (tgt == id) = false := by simpa using ht
        rw [ht', Bool.false_or] at hp
        have HP := Lib.hid hp
        clear hc hx hp H0 ht
        go_wp2_with fail
        go_roundw
        case rel => exact ⟨k + 1, by omega, by go_num, HP.out, HB.out _⟩
        case measure => simp [intOf]; omega
    · obtain rfl : k = xs.length := by omega
      rw [List.drop_length] at hp
      have HP := Lib.hid hp
      clear hp H0
      go_wp2_with fail
      go_ret
      exact ⟨by rw [← HP.out]; rfl, hb⟩

end Go.Proofs.YtdgakmpopgpijaaGreatDoor
