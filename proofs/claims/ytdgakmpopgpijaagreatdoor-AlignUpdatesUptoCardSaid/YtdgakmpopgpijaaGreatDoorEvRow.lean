/- The contract of event.row: the error of a row of an event. -/
import Derived.Test.YtdgakmpopgpijaaGreatDoorEvent1
set_option linter.unusedVariables false
namespace Go.Proofs.YtdgakmpopgpijaaGreatDoor
open Go.RowKit

/-- Whether a text is empty, begins or ends with a space, or has two spaces in a row. -/
def untidy (t : ByteArray) : Bool := (t.data.toList.isEmpty || (t.data.toList.headD 0).toNat == 32) || ((t.data.toList.getLastD 0).toNat == 32 || Lib.contains t.data.toList [32, 32])
/-- The error of a row of an event. -/
def evRowErr (runs : List Run) : Int := if (rowErr runs != 0) = true then rowErr runs else if untidy (plain runs) = true then 4 else if 32 < rowLen runs then 11 else 0

theorem last_byte (s : ByteArray) (h : 0 < s.size) : s.data.toList.getLastD 0 = s[s.size - 1] := by
  have hl : s.data.toList.length = s.size := by simp
  have hne : s.data.toList ≠ [] := by intro e; rw [e] at hl; simp at hl; omega
  rw [List.getLastD_eq_getLast?, List.getLast?_eq_getElem?]
  rw [List.getElem?_eq_getElem (by omega)]
  simp only [Option.getD_some]
  have : s[s.size - 1] = s.data.toList[s.size - 1] := rfl
  simp only [this, hl]

theorem untidy_cases (t : ByteArray) : (t.size = 0 ∧ untidy t = true) ∨ (∃ h : 0 < t.size, (t[0].toNat = 32 ∧ untidy t = true) ∨ (t[0].toNat ≠ 32 ∧ t[t.size - 1].toNat = 32 ∧ untidy t = true) ∨ (t[0].toNat ≠ 32 ∧ t[t.size - 1].toNat ≠ 32 ∧ untidy t = Lib.contains t.data.toList [32, 32])) := by
  by_cases h : 0 < t.size
  · refine .inr ⟨h, ?_⟩
    have hne : t.data.toList.isEmpty = false := by
      rw [List.isEmpty_eq_false_iff]; intro e
      have hl : t.data.toList.length = t.size := by simp
      rw [e] at hl; simp at hl; omega
    unfold untidy
    rw [head_byte t h, last_byte t h, hne]
    by_cases h1 : t[0].toNat = 32
    · exact .inl ⟨h1, by simp only [h1]; simp⟩
    · by_cases h2 : t[t.size - 1].toNat = 32
      · exact .inr (.inl ⟨h1, h2, by simp only [h2]; simp⟩)
      · refine .inr (.inr ⟨h1, h2, ?_⟩)
        rw [beq_eq_false_iff_ne.2 h1, beq_eq_false_iff_ne.2 h2]
        simp
  · refine .inl ⟨by omega, ?_⟩
    have hl : t.data.toList.length = t.size := by simp
    have : t.data.toList = [] := List.eq_nil_of_length_eq_zero (by omega)
    unfold untidy
    rw [this]
    rfl

set_option maxHeartbeats 3200000 in
theorem evRow_calls (r : Row) (w : World) (hE : Env w) (hr : r.lies w) (hf : r.fits) :
    Calls Tryz.prog 69 #[.agg r.enc.toArray] w fun e w' => e = .returned (.int .i64 (evRowErr r.runs)) ∧ Below w.heap.size w w' := by
  have hC := fun w1 h1 h2 => rowCheck_calls r w1 h1 h2 hf
  have hP := fun w1 h2 => plain_calls r w1 h2 hf
  have hL := fun w1 h1 h2 => rowLen_calls r w1 h1 h2 hf
  have hps : (plain r.runs).size ≤ 4000000 := by
    have h2 := hf.2.2
    show (plainL r.runs).toArray.size ≤ 4000000
    rw [List.size_toArray, plainL_len]; exact h2
  obtain ⟨a, cap, xs⟩ := r
  simp only [Row.enc, Row.lies] at *
  generalize hG : evRowErr xs = G
  unfold evRowErr at hG
  have hun := untidy_cases (plain xs)
  generalize rowErr xs = E at *
  generalize plain xs = T at *
  generalize rowLen xs = L at *
  generalize hUt : untidy T = UT at *
  have HG := Lib.hid hG
  generalize hcs : #[Value.slice a xs.length cap] = cs at *
  have f0 := box_cell w cs 88 0 (.slice a xs.length cap) (by rw [← hcs]; rfl)
  have HB := Lib.hid (fun (w1 : World) (h : Below (w.heap.size + 1) (w.alloc (.cells cs 88)) w1) => box_below h)
  have HE := Lib.hid (fun (w1 : World) (h : Below (w.heap.size + 1) (w.alloc (.cells cs 88)) w1) => hE.below (box_below h) (Nat.le_refl _))
  have HR := Lib.hid (fun (w1 : World) (h : Below (w.heap.size + 1) (w.alloc (.cells cs 88)) w1) => hr.later (box_below h))
  have hb0 : Below (w.heap.size + 1) (w.alloc (.cells cs 88)) (w.alloc (.cells cs 88)) := Below.refl _ _
  have hsz : (w.alloc (.cells cs 88)).heap.size = w.heap.size + 1 := World.size_alloc _ _
  have HC := Lib.hid hC; have HPn := Lib.hid hP; have HL := Lib.hid hL
  generalize hW0 : w.alloc (.cells cs 88) = W0 at *
  have HW0 := Lib.hid hW0
  have HSZ := Lib.hid hsz
  clear hW0 hsz hE hr hC hP hL hG hUt
  go_enter Tryz.func69, Tryz.ntmps69
  subst hcs
  go_wp2_with fail
  rw [HW0.out]
  refine (HC.out _ (HE.out _ hb0) (HR.out _ hb0)).mono ?_
  rintro e w1 ⟨rfl, hb1⟩
  rw [HSZ.out] at hb1
  clear HW0 HC
  cases hE1 : E != 0
  · have hE0 : E = 0 := by simpa using hE1
    rw [hE1] at HG
    clear hE1
    subst hE0
    go_wp2_with fail
    refine (HPn.out _ (HR.out _ hb1)).mono ?_
    rintro e w2 ⟨rfl, hb2⟩
    replace hb2 : Below (w.heap.size + 1) W0 w2 := hb1.trans (hb2.mono (by have := hb1.size; rw [HSZ.out] at this; exact this))
    obtain ⟨m, hm⟩ := (HE.out _ hb2).2
    clear HPn
    have HCo := Lib.hid (Tryz.strings_Contains T ⟨#[32, 32]⟩ m w2 (by omega) hm)
    clear hm
    rcases hun with ⟨ht, hu⟩ | ⟨ht, ⟨h1, hu⟩ | ⟨h1, h2, hu⟩ | ⟨h1, h2, hu⟩⟩
    · have t0 : T.toList = [] := (empty_str T).1 ht
      have t1 : T.toList.isEmpty = true := by simpa using t0
      have HU := Lib.hid hu
      clear hu ht
      go_wp2_with fail
      go_ret
      exact ⟨ret_int (by rw [← HG.out, HU.out]; rfl), HB.out _ hb2⟩
    · have t0 : ¬ T.toList = [] := fun h => by have := (empty_str T).2 h; omega
      have t1 : T.toList.isEmpty = false := by simpa using t0
      have t2 : ((T[0].toNat : Int) == 32) = true := by simp only [h1]; decide
      have HU := Lib.hid hu
      clear hu h1
      go_wp2_with fail
      go_ret
      exact ⟨ret_int (by rw [← HG.out, HU.out]; rfl), HB.out _ hb2⟩
    · have t0 : ¬ T.toList = [] := fun h => by have := (empty_str T).2 h; omega
      have t1 : T.toList.isEmpty = false := by simpa using t0
      have t2 : ((T[0].toNat : Int) == 32) = false := by rw [beq_eq_false_iff_ne]; omega
      have t3 : ((T[T.size - 1].toNat : Int) == 32) = true := by simp only [h2]; decide
      have HU := Lib.hid hu
      clear hu h1 h2
      go_wp2_with fail
      go_ret
      exact ⟨ret_int (by rw [← HG.out, HU.out]; rfl), HB.out _ hb2⟩
    · have t0 : ¬ T.toList = [] := fun h => by have := (empty_str T).2 h; omega
      have t1 : T.toList.isEmpty = false := by simpa using t0
      have t2 : ((T[0].toNat : Int) == 32) = false := by rw [beq_eq_false_iff_ne]; omega
      have t3 : ((T[T.size - 1].toNat : Int) == 32) = false := by rw [beq_eq_false_iff_ne]; omega
      have hcc : Lib.contains T.data.toList (⟨#[32, 32]⟩ : ByteArray).data.toList = UT := by rw [hu]
      have HU := Lib.hid hu
      rw [hcc] at HCo
      clear hu h1 h2 hcc
      cases UT
      · rw [if_neg (by decide), if_neg (by decide)] at HG
        by_cases hL : 32 < L
        · rw [if_pos hL] at HG
          go_wp2_with (first
            | (go_at_call 113; refine HCo.out.mono ?_; rintro e w9 ⟨rfl, rfl⟩)
            | (go_at_call 114; refine (HL.out _ (HE.out _ hb2) (HR.out _ hb2)).mono ?_; rintro e w3 ⟨rfl, hb3⟩))
          go_ret
          exact ⟨ret_int HG.out, HB.out _ (hb2.trans (hb3.mono (by have := hb2.size; rw [HSZ.out] at this; exact this)))⟩
        · rw [if_neg hL] at HG
          have hL' : L ≤ 32 := by omega
          go_wp2_with (first
            | (go_at_call 113; refine HCo.out.mono ?_; rintro e w9 ⟨rfl, rfl⟩)
            | (go_at_call 114; refine (HL.out _ (HE.out _ hb2) (HR.out _ hb2)).mono ?_; rintro e w3 ⟨rfl, hb3⟩))
          go_ret
          exact ⟨ret_int HG.out, HB.out _ (hb2.trans (hb3.mono (by have := hb2.size; rw [HSZ.out] at this; exact this)))⟩
      · rw [if_neg (by decide), if_pos rfl] at HG
        go_wp2_with (go_at_call 113; refine HCo.out.mono ?_; rintro e w9 ⟨rfl, rfl⟩)
        go_ret
        exact ⟨ret_int HG.out, HB.out _ hb2⟩
  · rw [hE1, if_pos rfl] at HG
    go_wp2_with fail
    go_ret
    exact ⟨ret_int HG.out, HB.out _ hb1⟩

end Go.Proofs.YtdgakmpopgpijaaGreatDoor
