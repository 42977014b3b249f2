/- The contracts of cmp.Or and event.Less: whether an event is ahead of another one. -/
import Derived.Test.YtdgakmpopgpijaaGreatDoorEvLen
import Derived.StillTailTactics
set_option linter.unusedVariables false
namespace Go.Proofs.YtdgakmpopgpijaaGreatDoor
open Go.RowKit

def orL : List Int → Int
  | [] => 0
  | z :: l => if (z != 0) = true then z else orL l

theorem or_calls (a : Option Addr) (cap : Nat) (zs : List Int) (w : World) (hI : Ints w a zs) (hl : zs.length ≤ 4000000) :
    Calls Tryz.prog 72 #[.slice a zs.length cap] w fun e w' => e = .returned (.int .i64 (orL zs)) ∧ w = w' := by
  generalize hG : orL zs = G
  have H0 := Lib.hid (show orL (zs.drop 0) = G by rw [List.drop_zero]; exact hG)
  clear hG
  go_enter Tryz.func72, Tryz.ntmps72
  go_wp2_with fail
  go_loop [8] (fun i => ∃ k : Nat, k ≤ zs.length ∧ i = .int .i64 k ∧ orL (zs.drop k) = G) (fun i => zs.length - (intOf i).toNat)
  case atStart => exact ⟨0, by omega, rfl, H0.out⟩
  case round =>
    obtain ⟨k, hk, rfl, hp⟩ := hrel
    by_cases hlt : k < zs.length
    · obtain ⟨b, off, z, rfl, hbl, hzz, hc, _⟩ := hI.at_ hlt
      have d0 := hc 0 _ rfl
      simp only [Nat.add_zero, Nat.mul_one] at d0
      rw [drop_at zs k z hzz] at hp
      simp only [orL] at hp
      have HP := Lib.hid hp
      clear hp hc hzz hI H0
      cases hz : z != 0
      · rw [hz, if_neg (by decide)] at HP
        go_wp2_with fail
        go_round
        case rel => exact ⟨k + 1, by omega, by go_num, HP.out⟩
        case measure => simp [intOf]; omega
      · rw [hz, if_pos rfl] at HP
        go_wp2_with fail
        go_ret
        exact ⟨ret_int HP.out, rfl⟩
    · obtain rfl : k = zs.length := by omega
      rw [List.drop_length] at hp
      have HP := Lib.hid hp
      clear hp H0
      go_wp2_with fail
      go_ret
      exact ⟨ret_int (by rw [← HP.out]; rfl), rfl⟩

/-- Whether an event is ahead of another one. -/
def lessB (x y : Ev) : Bool := decide (orL [Lib.compareInt x.inn y.inn, Lib.compareInt x.id y.id] < 0)

set_option maxRecDepth 100000 in
set_option maxHeartbeats 3200000 in
theorem less_calls (x y : Ev) (w : World) : Calls Tryz.prog 41 #[.agg x.enc.toArray, .agg y.enc.toArray] w fun e w' => e = .returned (.bool (lessB x y)) ∧ Below w.heap.size w w' := by
  unfold lessB
  obtain ⟨id, inn, out, region, kind, speaker, a, cap, xs⟩ := x
  obtain ⟨id', inn', out', region', kind', speaker', a', cap', xs'⟩ := y
  simp only [Ev.enc]
  have HC := Lib.hid (fun p q w => Tryz.cmp_Compare_int p q w)
  have hb0 : ∀ o o', Below w.heap.size w ((w.alloc o).alloc o') := fun o o' => ((Below.refl _ _).alloc (Nat.le_refl _) _).alloc (by simp) _
  have hc1 : ∀ (cs cs' : Array Value) (j : Nat), ((w.alloc (.cells cs 60)).alloc (.cells cs' 60)).cell? ⟨w.heap.size, j, none⟩ = cs[j]? := fun cs cs' j => by
    rw [World.cell?_alloc_lt _ _ _ (by simp), cell_of_row _ _ j cs 60 (0, 0) (heap_alloc_last w _)]
  have hc2 : ∀ (cs cs' : Array Value) (j : Nat), ((w.alloc (.cells cs 60)).alloc (.cells cs' 60)).cell? ⟨w.heap.size + 1, j, none⟩ = cs'[j]? := fun cs cs' j => by
    rw [cell_of_row _ _ j cs' 60 (0, 0) (heap_two w _ _)]
  have HB := Lib.hid (hb0 (.cells #[.int .i64 id, .int .i64 inn, .int .i64 out, .string region, .int .u8 kind, .string speaker, .slice a xs.length cap] 60) (.cells #[.int .i64 id', .int .i64 inn', .int .i64 out', .string region', .int .u8 kind', .string speaker', .slice a' xs'.length cap'] 60))
  have e1 := hc1 #[.int .i64 id, .int .i64 inn, .int .i64 out, .string region, .int .u8 kind, .string speaker, .slice a xs.length cap] #[.int .i64 id', .int .i64 inn', .int .i64 out', .string region', .int .u8 kind', .string speaker', .slice a' xs'.length cap'] 0
  have e2 := hc1 #[.int .i64 id, .int .i64 inn, .int .i64 out, .string region, .int .u8 kind, .string speaker, .slice a xs.length cap] #[.int .i64 id', .int .i64 inn', .int .i64 out', .string region', .int .u8 kind', .string speaker', .slice a' xs'.length cap'] 1
  have e3 := hc2 #[.int .i64 id, .int .i64 inn, .int .i64 out, .string region, .int .u8 kind, .string speaker, .slice a xs.length cap] #[.int .i64 id', .int .i64 inn', .int .i64 out', .string region', .int .u8 kind', .string speaker', .slice a' xs'.length cap'] 0
  have e4 := hc2 #[.int .i64 id, .int .i64 inn, .int .i64 out, .string region, .int .u8 kind, .string speaker, .slice a xs.length cap] #[.int .i64 id', .int .i64 inn', .int .i64 out', .string region', .int .u8 kind', .string speaker', .slice a' xs'.length cap'] 1
  replace e1 := e1.trans (show _ = some (Value.int .i64 id) from rfl)
  replace e2 := e2.trans (show _ = some (Value.int .i64 inn) from rfl)
  replace e3 := e3.trans (show _ = some (Value.int .i64 id') from rfl)
  replace e4 := e4.trans (show _ = some (Value.int .i64 inn') from rfl)
  generalize hW : (w.alloc (.cells #[.int .i64 id, .int .i64 inn, .int .i64 out, .string region, .int .u8 kind, .string speaker, .slice a xs.length cap] 60)).alloc (.cells #[.int .i64 id', .int .i64 inn', .int .i64 out', .string region', .int .u8 kind', .string speaker', .slice a' xs'.length cap'] 60) = W at *
  have HW := Lib.hid hW
  clear hW hb0 hc1 hc2
  go_enter Tryz.func41, Tryz.ntmps41
  go_wp2_with fail
  rw [HW.out]
  refine wp_region_still_tail 12 (by kernel_rfl) (by kernel_rfl) ?_
  simp only [List.take_succ_cons, List.take_zero, List.drop_succ_cons, List.drop_zero]
  repeat still_step
  still_call (HC.out _ _ _)
  repeat still_step
  still_call (HC.out _ _ _)
  refine wpStill_nil ?_
  have HI : Hid (∀ w2 : World, Ints (w2.alloc (.cells #[.int .i64 (Lib.compareInt inn inn'), .int .i64 (Lib.compareInt id id')] 3)) (some ⟨w2.heap.size, 0, none⟩) [Lib.compareInt inn inn', Lib.compareInt id id']) := Lib.hid (fun w2 => by
    refine .inr ⟨w2.heap.size, 0, rfl, by simp, fun i z hz => ⟨fun j v hv => ?_, trivial⟩⟩
    match j, hv with
    | 0, hv =>
      simp at hv
      subst hv
      rw [show 0 + i * 1 + 0 = i by omega, cell_of_row _ _ i _ 3 (0, 0) (heap_alloc_last w2 _)]
      match i, hz with
      | 0, hz => simp at hz; subst hz; rfl
      | 1, hz => simp at hz; subst hz; rfl)
  have HI2 : Hid (Ints ((W.alloc (.cells #[.int .i64 (Lib.compareInt inn inn'), .int .i64 (Lib.compareInt id id')] 3)).drew) (some ⟨W.heap.size, 0, none⟩) [Lib.compareInt inn inn', Lib.compareInt id id']) := Lib.hid (HI.out W)
  go_wp2_with fail
  refine (or_calls _ _ [Lib.compareInt inn inn', Lib.compareInt id id'] _ HI2.out (by simp)).mono ?_
  rintro e w' ⟨rfl, rfl⟩
  go_wp2_with fail
  go_ret
  exact ⟨rfl, by first | exact (HB.out.drew).alloc HB.out.size _ | exact (HB.out.alloc HB.out.size _).drew | exact HB.out.alloc HB.out.size _⟩

end Go.Proofs.YtdgakmpopgpijaaGreatDoor
