/- The contract of event.Len: the number of characters of any event. -/
import Derived.Test.YtdgakmpopgpijaaGreatDoorLens
set_option linter.unusedVariables false
namespace Go.Proofs.YtdgakmpopgpijaaGreatDoor
open Go.RowKit

theorem lenFrom_bd : ∀ (l : List Run) (acc : Int), 0 ≤ acc → -1 ≤ lenFrom l acc ∧ lenFrom l acc ≤ acc + sumText l
  | [], acc, h => by simp only [lenFrom, sumText]; omega
  | x :: l, acc, h => by
    have h1 := lenB_le x.text
    simp only [lenFrom, sumText]
    split
    · omega
    · have := lenFrom_bd l (acc + lenB x.text) (by omega)
      omega
theorem rowLen_bd (l : List Run) : -1 ≤ rowLen l ∧ rowLen l ≤ sumText l := by
  have := lenFrom_bd l 0 (by omega)
  unfold rowLen
  omega

def lenSum : List Int → Int → Int
  | [], acc => acc
  | n :: l, acc => if n < 0 then -1 else lenSum l (acc + n)
/-- The number of characters of an event, with line feeds. -/
def evLen (rows : List Row) : Int := lenSum (lensOf rows) (max ((rows.length : Int) - 1) 0)

theorem lensOf_bd (rows : List Row) (hf : ∀ r ∈ rows, r.fits) : ∀ z ∈ lensOf rows, z ≤ 4000000 := by
  intro z hz
  simp only [lensOf, List.mem_map] at hz
  obtain ⟨r, hr, rfl⟩ := hz
  have h1 := rowLen_bd r.runs
  have h2 := (hf r hr).2.2
  omega

set_option maxHeartbeats 3200000 in
theorem evLen_calls (x : Ev) (w : World) (hE : Env w) (hr : x.lies w) (hf : x.fits) :
    Calls Tryz.prog 117 #[.agg x.enc.toArray] w fun e w' => e = .returned (.int .i64 (evLen x.rows)) ∧ Below w.heap.size w w' := by
  have hLn := fun w1 h1 h2 => lens_calls x w1 h1 h2 hf
  obtain ⟨id, inn, out, region, kind, speaker, a, cap, xs⟩ := x
  obtain ⟨_, _, _, _, _, _, _, hfx, hl⟩ := hf
  have hbd := lensOf_bd xs hfx
  simp only [Ev.lies] at hr hfx hl hLn
  simp only [Ev.enc] at hLn ⊢
  have hlen : (lensOf xs).length = xs.length := by simp [lensOf]
  generalize hG : evLen xs = G
  unfold evLen at hG
  generalize hz : lensOf xs = zs at *
  have HZ := Lib.hid hz
  have HG := Lib.hid hG
  have HLn := Lib.hid (hLn (w.alloc (.cells #[.int .i64 id, .int .i64 inn, .int .i64 out, .string region, .int .u8 kind, .string speaker, .slice a xs.length cap] 60)) (hE.below ((Below.refl _ _).alloc (Nat.le_refl _) _) (Nat.le_refl _)) (hr.later ((Below.refl _ _).alloc (Nat.le_refl _) _)))
  have HLEN := Lib.hid hlen
  have HBD := Lib.hid hbd
  clear hG hLn hlen hr hE hfx hz hbd
  obtain ⟨m, hm, hm2, hmle⟩ : ∃ m : Nat, max ((xs.length : Int) - 1) 0 = m ∧ ((xs.length : Int) - 1 < 0 ∧ m = 0 ∨ (0 : Int) ≤ (xs.length : Int) - 1 ∧ (m : Int) = (xs.length : Int) - 1) ∧ m ≤ 4000000 := by
    by_cases h : xs.length = 0
    · exact ⟨0, by omega, .inl ⟨by omega, rfl⟩, by omega⟩
    · exact ⟨xs.length - 1, by omega, .inr ⟨by omega, by omega⟩, by omega⟩
  rw [hm] at HG
  have HM := Lib.hid hm2
  clear hm hm2
  rcases HM.out with ⟨h0, hm0⟩ | ⟨h0, hm0⟩
  all_goals
    have HM0 := Lib.hid hm0
    clear hm0
    go_enter Tryz.func117, Tryz.ntmps117
    go_wp2_with fail
    refine HLn.out.mono ?_
    rintro e w1 ⟨a', c', rfl, hI, hb1⟩
    rw [World.size_alloc] at hb1
    replace hb1 := Lib.hid (box_below hb1)
    rw [HZ.out] at hI
    clear HLn
    go_wp2_with fail
    go_loop [3, 14] (fun s i => ∃ (k acc : Nat), k ≤ zs.length ∧ i = .int .i64 k ∧ s = .int .i64 acc ∧ lenSum (zs.drop k) acc = G ∧ acc ≤ 4000000 + 4000000 * k) (fun _ i => zs.length - (intOf i).toNat)
    case atStart => exact ⟨0, m, by omega, rfl, by have := HM0.out; go_num, by rw [List.drop_zero]; exact HG.out, by omega⟩
    case round =>
      obtain ⟨k, acc, hk, rfl, rfl, hp, hac⟩ := hrel
      have hlx : zs.length ≤ xs.length := by have := HLEN.out; omega
      have hlx2 : xs.length ≤ zs.length := by have := HLEN.out; omega
      by_cases hlt : k < zs.length
      · obtain ⟨b, off, z, rfl, hbl, hzz, hc, _⟩ := hI.at_ hlt
        have d0 := hc 0 _ rfl
        simp only [Nat.add_zero, Nat.mul_one] at d0
        have hzb := HBD.out z (List.mem_of_getElem? hzz)
        rw [drop_at zs k z hzz] at hp
        simp only [lenSum] at hp
        have HP := Lib.hid hp
        clear hp hc hzz hI HG
        by_cases hneg : z < 0
        · go_wp2_with fail
          all_goals
            go_ret
            exact ⟨ret_int (by rw [← HP.out, if_pos hneg]), hb1.out⟩
        · have hnn : 0 ≤ z := by omega
          obtain ⟨n, rfl⟩ := Int.eq_ofNat_of_zero_le hnn
          rw [if_neg (by omega)] at HP
          have hac2 : acc ≤ 4000000 + 4000000 * 4000000 := by omega
          clear hneg
          go_wp2_with fail
          all_goals
            go_round
            case rel => exact ⟨k + 1, acc + n, by omega, by go_num, by go_num, by have := HP.out; simpa using this, by omega⟩
            case measure => simp [intOf]; omega
      · obtain rfl : k = zs.length := by omega
        rw [List.drop_length] at hp
        have HP := Lib.hid hp
        clear hp HG
        go_wp2_with fail
        go_ret
        exact ⟨ret_int (by rw [← HP.out]; rfl), hb1.out⟩

end Go.Proofs.YtdgakmpopgpijaaGreatDoor
