/- The contracts of the reference of strings, rates, headers and regions. -/
import Derived.Test.YtdgakmpopgpijaaGreatDoorIndex
import Derived.Test.YtdgakmpopgpijaaGreatDoorNames
import Derived.Test.YtdgakmpopgpijaaGreatDoorRegion
import Derived.Lib.ValidLaws
import Derived.Test.YtdgakmpopgpijaaGreatDoorList
import Derived.Test.YtdgakmpopgpijaaGreatDoorPlace
set_option linter.unusedVariables false
/- The contracts of the reference's Repertoire, Index, digit and Name. -/
namespace Go.Proofs.YtdgakmpopgpijaaGreatDoor
open Go.RowKit

set_option maxRecDepth 100000 in
theorem rep_calls (w : World) : Calls Tryz.prog 151 #[] w fun e w' => e = .returned (.string allStr) ∧ w = w' := by
  go_enter Tryz.func151, Tryz.ntmps151
  go_wp2
  go_ret
  exact ⟨by kernel_rfl, rfl⟩

set_option maxRecDepth 100000 in
theorem refIndex_calls (r : Int) (w : World) (h0 : -2147483648 ≤ r) (h1 : r ≤ 2147483647) :
    Calls Tryz.prog 125 #[.int .i32 r] w fun e w' => e = .returned (.int .i64 (idx r)) ∧ Below w.heap.size w w' := by
  by_cases ha : 32 ≤ r ∧ r ≤ 126
  · have hi : idx r = r - 32 := by unfold idx; rw [if_pos ha]
    obtain ⟨a0, a1⟩ := ha
    have HI := Lib.hid hi
    clear hi
    go_enter Tryz.func125, Tryz.ntmps125
    go_wp2
    go_ret
    rw [HI.out]
    exact ⟨rfl, Below.refl _ _⟩
  · have hi : idx r = placeL (runes allStr) r 0 := by unfold idx; rw [if_neg ha, runes_all]
    have hrep := rep_calls w
    have hs : allStr.size ≤ 4000000 := by decide +kernel
    generalize allStr = s at *
    rw [hi]
    clear hi
    generalize hG : placeL (runes s) r 0 = G
    have hG0 : placeL (runesF s s.size 0) r 0 = G := hG
    have H0 := Lib.hid hG0
    have HR := Lib.hid hrep
    clear hG hG0 hrep
    rcases (show r < 32 ∨ (32 ≤ r ∧ 126 < r) by omega) with hb | ⟨hb, hb'⟩
    all_goals
      clear ha
      go_enter Tryz.func125, Tryz.ntmps125
      go_wp2_with fail
      refine HR.out.mono ?_
      rintro e w1 ⟨rfl, rfl⟩
      go_wp2_with fail
      go_loopw [3] (fun n w' => ∃ (pos b : Nat) (k : Nat), w' = w.iter s pos ∧ n = .int .i64 k ∧ placeL (runesF s b pos) r k = G ∧ s.size ≤ pos + b ∧ k ≤ pos ∧ k ≤ s.size) (fun _ w' => s.size - w'.iterPos w.heap.size)
      case atStart => exact ⟨0, s.size, 0, rfl, rfl, H0.out, by omega, by omega, by omega⟩
      case round =>
        obtain ⟨pos, b, k, rfl, rfl, hp, hb, hk, hk2⟩ := hrel
        by_cases hlt : pos < s.size
        · obtain ⟨c, rfl, hn⟩ := runesF_next s b pos hlt hb
          have hwd := width_pos s pos hlt
          have hnx : ∀ ty, (Instr.next (.pointer (some ⟨w.heap.size, 0, none⟩)) true ty).run Tryz.prog (w.iter s pos) = _ := fun ty => run_next_any w s pos ty hlt
          rw [hn] at hp
          by_cases he : ((Utf8.decode s pos).1 : Int) = r
          · rw [placeL_yes _ _ _ _ he] at hp
            have hbe : (((Utf8.decode s pos).1 : Int) == r) = true := by simpa using he
            have HP := Lib.hid hp
            clear hp hn he H0 HR
            go_wp2
            go_ret
            exact ⟨by rw [← HP.out]; rfl, (Below.refl _ _).alloc (Nat.le_refl _) _⟩
          · rw [placeL_no _ _ _ _ he] at hp
            have hbe : (((Utf8.decode s pos).1 : Int) == r) = false := by simpa using he
            have HP := Lib.hid hp
            clear hp hn he H0 HR
            go_wp2
            go_roundw
            case rel => exact ⟨pos + (Utf8.decode s pos).2, c, k + 1, rfl, by go_num, HP.out, by omega, by omega, by omega⟩
            case measure => simp; omega
        · have hnx : ∀ ty, (Instr.next (.pointer (some ⟨w.heap.size, 0, none⟩)) true ty).run Tryz.prog (w.iter s pos) = _ := fun ty => run_next_end w s pos ty hlt
          rw [runesF_end s b pos hlt] at hp
          have HP := Lib.hid hp
          clear hp H0 HR
          go_wp2
          go_ret
          exact ⟨by rw [← HP.out]; rfl, (Below.refl _ _).alloc (Nat.le_refl _) _⟩

theorem digit_yes (c : Int) (w : World) (h0 : 48 ≤ c) (h1 : c ≤ 57) : Calls Tryz.prog 126 #[.int .u8 c] w fun e w' => e = .returned (.bool true) ∧ w = w' := by
  go_enter Tryz.func126, Tryz.ntmps126
  go_wp2
  go_ret
  exact ⟨rfl, rfl⟩
theorem digit_no (c : Int) (w : World) (h : c < 48 ∨ 57 < c) : Calls Tryz.prog 126 #[.int .u8 c] w fun e w' => e = .returned (.bool false) ∧ w = w' := by
  rcases (show c < 48 ∨ (48 ≤ c ∧ 57 < c) by omega) with h | ⟨h, h'⟩
  · go_enter Tryz.func126, Tryz.ntmps126
    go_wp2
    go_ret
    exact ⟨rfl, rfl⟩
  · have h2 : decide (c ≤ 57) = false := by simp; omega
    go_enter Tryz.func126, Tryz.ntmps126
    go_wp2
    go_ret
    exact ⟨rfl, rfl⟩

set_option maxHeartbeats 1600000 in
theorem refName_calls (s : ByteArray) (w : World) (hs : s.size ≤ 4000000) :
    Calls Tryz.prog 91 #[.string s] w fun e w' => e = .returned (.bool (nameB s)) ∧ w = w' := by
  by_cases h1 : s.size < 1
  · have hn : nameB s = false := by simp [nameB, show ¬ 1 ≤ s.size by omega]
    have HN := Lib.hid hn; clear hn
    go_enter Tryz.func91, Tryz.ntmps91
    go_wp2
    go_ret
    rw [HN.out]; exact ⟨rfl, rfl⟩
  by_cases h2 : 16 < s.size
  · have hn : nameB s = false := by simp [nameB, show ¬ s.size ≤ 16 by omega]
    have HN := Lib.hid hn; clear hn
    go_enter Tryz.func91, Tryz.ntmps91
    go_wp2
    go_ret
    rw [HN.out]; exact ⟨rfl, rfl⟩
  have hp : 0 < s.size := by omega
  have HY := Lib.hid (name_yes s (by omega) (by omega))
  have HN3 := Lib.hid (show s[0].toNat < 65 → nameB s = false from fun h3 => by simp only [nameB, head_byte s hp, show ¬ 65 ≤ s[0].toNat by omega, decide_false, Bool.and_false, Bool.false_and])
  have HN4 := Lib.hid (show 90 < s[0].toNat → nameB s = false from fun h3 => by simp only [nameB, head_byte s hp, show ¬ s[0].toNat ≤ 90 by omega, decide_false, Bool.and_false, Bool.false_and])
  go_enter Tryz.func91, Tryz.ntmps91
  go_wp2
  go_loop [3] (fun i => ∃ k : Nat, k ≤ s.size ∧ i = .int .i64 k ∧ okTo s k ∧ (0 < k → 65 ≤ s[0].toNat ∧ s[0].toNat ≤ 90)) (fun i => s.size - (intOf i).toNat)
  case atStart => exact ⟨0, by omega, rfl, okTo_zero s, fun h => by omega⟩
  case round =>
    obtain ⟨k, hk, rfl, hok, hfst⟩ := hrel
    by_cases hlt : k < s.size
    · have hN := Lib.hid (name_no s k hlt)
      have hS := Lib.hid (okTo_succ s k hlt hok)
      have HF := Lib.hid hfst
      have hb := s[k].toNat_lt
      clear hok hfst
      rcases (show (65 ≤ s[k].toNat ∧ s[k].toNat ≤ 90) ∨ (k = 0 ∧ s[k].toNat < 65) ∨ (k = 0 ∧ 65 ≤ s[k].toNat ∧ 90 < s[k].toNat) ∨ (0 < k ∧ ((s[k].toNat < 65 ∧ 48 ≤ s[k].toNat ∧ s[k].toNat ≤ 57) ∨ (s[k].toNat < 65 ∧ s[k].toNat = 45) ∨ (s[k].toNat < 65 ∧ ¬ s[k].toNat = 45 ∧ s[k].toNat < 48) ∨ (s[k].toNat < 65 ∧ 57 < s[k].toNat) ∨ (65 ≤ s[k].toNat ∧ 90 < s[k].toNat ∧ s[k].toNat = 95) ∨ (65 ≤ s[k].toNat ∧ 90 < s[k].toNat ∧ ¬ s[k].toNat = 95))) by omega) with ⟨c1, c2⟩ | ⟨rfl, c1⟩ | ⟨rfl, c1, c2⟩ | ⟨hk0, c⟩
      · have hnew : okTo s (k + 1) ∧ (0 < k + 1 → 65 ≤ s[0].toNat ∧ s[0].toNat ≤ 90) := ⟨hS.out (nb_yes _ (by omega)), fun _ => by
          by_cases hz : k = 0
          · subst hz; exact ⟨c1, c2⟩
          · exact HF.out (by omega)⟩
        have HNW := Lib.hid hnew
        clear hnew
        go_wp2
        go_round
        case rel => exact ⟨k + 1, by omega, by go_num, HNW.out⟩
        case measure => simp [intOf]; omega
      · go_wp2
        go_ret
        rw [HN3.out c1]; exact ⟨rfl, rfl⟩
      · have hq9 : decide ((s[0].toNat : Int) ≤ 90) = false := by simp; omega
        go_wp2
        go_ret
        rw [HN4.out c2]; exact ⟨rfl, rfl⟩
      · have hkz : ((k : Int) == 0) = false := by simp; omega
        have hkz2 : (k == 0) = false := by simp; omega
        rcases c with ⟨c1, c2, c3⟩ | ⟨c1, c2⟩ | ⟨c1, c2, c3⟩ | ⟨c1, c2⟩ | ⟨c1, c2, c3⟩ | ⟨c1, c2, c3⟩
        · have HNW := Lib.hid (hS.out (nb_yes _ (by omega)))
          go_wp2_with (go_at_call 126; refine (digit_yes _ _ (by omega) (by omega)).mono ?_; rintro e w2 ⟨rfl, rfl⟩)
          go_round
          case rel => exact ⟨k + 1, by omega, by go_num, HNW.out, fun _ => HF.out hk0⟩
          case measure => simp [intOf]; omega
        · have HNW := Lib.hid (hS.out (nb_yes _ (by omega)))
          have hq : ((s[k].toNat : Int) != 95) = true := by simp; omega
          have hq2 : ((s[k].toNat : Int) != 45) = false := by simp; omega
          go_wp2_with (go_at_call 126; refine (digit_no _ _ (by omega)).mono ?_; rintro e w2 ⟨rfl, rfl⟩)
          go_round
          case rel => exact ⟨k + 1, by omega, by go_num, HNW.out, fun _ => HF.out hk0⟩
          case measure => simp [intOf]; omega
        · have HNW := Lib.hid (hN.out (nb_no _ (by omega)))
          have hq : ((s[k].toNat : Int) != 95) = true := by simp; omega
          have hq2 : ((s[k].toNat : Int) != 45) = true := by simp; omega
          go_wp2_with (go_at_call 126; refine (digit_no _ _ (by omega)).mono ?_; rintro e w2 ⟨rfl, rfl⟩)
          go_ret
          rw [HNW.out]; exact ⟨rfl, rfl⟩
        · have HNW := Lib.hid (hN.out (nb_no _ (by omega)))
          have hq : ((s[k].toNat : Int) != 95) = true := by simp; omega
          have hq2 : ((s[k].toNat : Int) != 45) = true := by simp; omega
          go_wp2_with (go_at_call 126; refine (digit_no _ _ (by omega)).mono ?_; rintro e w2 ⟨rfl, rfl⟩)
          go_ret
          rw [HNW.out]; exact ⟨rfl, rfl⟩
        · have HNW := Lib.hid (hS.out (nb_yes _ (by omega)))
          have hq : ((s[k].toNat : Int) != 95) = false := by simp; omega
          go_wp2_with (go_at_call 126; refine (digit_no _ _ (by omega)).mono ?_; rintro e w2 ⟨rfl, rfl⟩)
          go_round
          case rel => exact ⟨k + 1, by omega, by go_num, HNW.out, fun _ => HF.out hk0⟩
          case measure => simp [intOf]; omega
        · have HNW := Lib.hid (hN.out (nb_no _ (by omega)))
          have hq : ((s[k].toNat : Int) != 95) = true := by simp; omega
          have hq2 : ((s[k].toNat : Int) != 45) = true := by simp; omega
          have hq9 : decide ((s[k].toNat : Int) ≤ 90) = false := by simp; omega
          go_wp2_with (go_at_call 126; refine (digit_no _ _ (by omega)).mono ?_; rintro e w2 ⟨rfl, rfl⟩)
          go_ret
          rw [HNW.out]; exact ⟨rfl, rfl⟩
    · obtain rfl : k = s.size := by omega
      have HZ := Lib.hid (HY.out (hfst hp).1 (hfst hp).2 hok)
      clear hfst hok
      go_wp2
      go_ret
      rw [HZ.out]; exact ⟨rfl, rfl⟩

end Go.Proofs.YtdgakmpopgpijaaGreatDoor

/- The contracts of the reference's Valid, runes and Len of strings, Valid and CanDrop of rates, the check of a header and of a region: the same specifications as the program's. -/
namespace Go.Proofs.YtdgakmpopgpijaaGreatDoor
open Go.RowKit

theorem idx_bad : ¬ 0 ≤ idx 65533 := by decide +kernel
theorem valid_of_all (s : ByteArray) : ∀ b pos, s.size ≤ pos + b → (runesF s b pos).all (fun r => decide (0 ≤ idx r)) = true → Lib.validD (s.data.toList.drop pos) = true
  | 0, pos, hb, _ => by
    rw [List.drop_eq_nil_of_le (by simpa using hb)]
    rfl
  | b + 1, pos, hb, h => by
    by_cases hlt : pos < s.size
    · have hw := width_pos s pos hlt
      have hne : s.data.toList.drop pos ≠ [] := by
        intro h0
        have := congrArg List.length h0
        simp at this
        have h1 : s.size = s.data.size := rfl
        omega
      rw [runesF, if_pos hlt, List.all_cons, Bool.and_eq_true] at h
      rw [Lib.validD_step _ hne, Lib.decodeL_drop, if_neg, List.drop_drop]
      · exact valid_of_all s b _ (by omega) h.2
      · rintro ⟨h1, _⟩
        have h2 := h.1
        rw [h1] at h2
        exact idx_bad (by simpa using h2)
    · rw [List.drop_eq_nil_of_le (by have h1 : s.size = s.data.size := rfl; simp; omega)]
      rfl
theorem validB_all (s : ByteArray) : (runesF s s.size 0).all (fun r => decide (0 ≤ idx r)) = validB s := by
  unfold validB runes
  cases h : (runesF s s.size 0).all (fun r => decide (0 ≤ idx r))
  · rw [Bool.and_false]
  · have := valid_of_all s s.size 0 (by omega) h
    rw [List.drop_zero] at this
    rw [this]; rfl

set_option maxHeartbeats 400000 in
theorem refValid_calls (s : ByteArray) (w : World) (hs : s.size ≤ 4000000) :
    Calls Tryz.prog 90 #[.string s] w fun e w' => e = .returned (.bool (validB s)) ∧ Below w.heap.size w w' := by
  have hG := validB_all s
  generalize hGg : validB s = G at *
  have H0 := Lib.hid hG
  clear hG hGg
  go_enter Tryz.func90, Tryz.ntmps90
  go_wp2_with fail
  go_loopw [4] (fun _ wr => ∃ (pos b : Nat), IterAt w s w.heap.size pos wr ∧ (runesF s b pos).all (fun r => decide (0 ≤ idx r)) = G ∧ s.size ≤ pos + b) (fun _ wr => s.size - wr.iterPos w.heap.size)
  case atStart => exact ⟨0, s.size, IterAt.start _ _, H0.out, by omega⟩
  case round =>
    obtain ⟨pos, b, hI, hp, hb⟩ := hrel
    have hpos := Lib.hid hI.pos
    by_cases hlt : pos < s.size
    · obtain ⟨c, rfl, hn⟩ := runesF_next s b pos hlt hb
      have hwd := width_pos s pos hlt
      have hle := decode_le s pos
      have hnx : ∀ ty, (Instr.next (.pointer (some ⟨w.heap.size, 0, none⟩)) true ty).run Tryz.prog wr = _ := fun ty => Lib.run_next_any_at wr w.heap.size s pos ty hI.1 hlt
      rw [hn, List.all_cons] at hp
      generalize (Utf8.decode s pos).1 = x at *
      generalize (Utf8.decode s pos).2 = d at *
      have HS := Lib.hid (fun w2 => hI.step (w2 := w2) (pos + d))
      have HP := Lib.hid hp
      clear hp hn H0 hI
      by_cases hx : 0 ≤ idx x
      · go_wp2_with (go_at_call 125; refine (refIndex_calls _ _ (by omega) (by omega)).mono ?_; rintro e w2 ⟨rfl, hb2⟩)
        have hI2 := HS.out _ hb2
        have hq := HP.out
        simp only [hx, decide_true, Bool.true_and] at hq
        go_roundw
        case rel => exact ⟨pos + d, c, hI2, hq, by omega⟩
        case measure => rw [hI2.pos, hpos.out]; omega
      · have hx' : idx x < 0 := by omega
        go_wp2_with (go_at_call 125; refine (refIndex_calls _ _ (by omega) (by omega)).mono ?_; rintro e w2 ⟨rfl, hb2⟩)
        go_ret
        have hI2 := HS.out _ hb2
        have hq := HP.out
        rw [show decide (0 ≤ idx (x : Int)) = false by simp; omega, Bool.false_and] at hq
        exact ⟨by rw [← hq]; rfl, hI2.2⟩
    · have hnx : ∀ ty, (Instr.next (.pointer (some ⟨w.heap.size, 0, none⟩)) true ty).run Tryz.prog wr = _ := fun ty => Lib.run_next_end_at wr w.heap.size s pos ty hI.1 hlt
      rw [all_end s b pos hlt] at hp
      have HP := Lib.hid hp
      have HB := Lib.hid hI.2
      clear hp H0 hI
      go_wp2_with fail
      go_ret
      exact ⟨by rw [← HP.out]; rfl, HB.out⟩

/-! ### rates -/
theorem refRate_calls (r : Int) (w : World) : Calls Tryz.prog 92 #[.int .u8 r] w fun e w' => e = .returned (.bool (decide (1 ≤ r ∧ r ≤ 7))) ∧ w = w' := by
  by_cases h1 : 1 ≤ r
  · by_cases h2 : r ≤ 7
    · have HD := Lib.hid (show decide (1 ≤ r ∧ r ≤ 7) = true by simp [h1, h2])
      go_enter Tryz.func92, Tryz.ntmps92
      go_wp2
      go_ret
      rw [HD.out]; exact ⟨rfl, rfl⟩
    · have HD := Lib.hid (show decide (1 ≤ r ∧ r ≤ 7) = false by simp [h2])
      have h2' : decide (r ≤ 7) = false := by simpa using h2
      rw [HD.out]
      go_enter Tryz.func92, Tryz.ntmps92
      go_wp2
      go_ret
      exact ⟨rfl, rfl⟩
  · have HD := Lib.hid (show decide (1 ≤ r ∧ r ≤ 7) = false by simp [h1])
    have h1' : decide (1 ≤ r) = false := by simpa using h1
    rw [HD.out]
    go_enter Tryz.func92, Tryz.ntmps92
    go_wp2
    go_ret
    exact ⟨rfl, rfl⟩
theorem refCanDrop_calls (r : Int) (w : World) : Calls Tryz.prog 93 #[.int .u8 r] w fun e w' => e = .returned (.bool (decide (r = 4 ∨ r = 7))) ∧ w = w' := by
  by_cases h1 : r = 4
  · subst h1
    go_enter Tryz.func93, Tryz.ntmps93
    go_wp2
    go_ret
    exact ⟨rfl, rfl⟩
  · have h1' : (r == 4) = false := by simpa using h1
    by_cases h2 : r = 7
    · subst h2
      go_enter Tryz.func93, Tryz.ntmps93
      go_wp2
      go_ret
      exact ⟨rfl, rfl⟩
    · have HD := Lib.hid (show decide (r = 4 ∨ r = 7) = false by simp [h1, h2])
      have h2' : (r == 7) = false := by simpa using h2
      go_enter Tryz.func93, Tryz.ntmps93
      go_wp2
      go_ret
      rw [HD.out]; exact ⟨rfl, rfl⟩
theorem rateValid_iff (r : Int) (h0 : 0 ≤ r) (h1 : r ≤ 255) : decide (1 ≤ r ∧ r ≤ 7) = rateValid r := by
  unfold rateValid rateTicks
  rw [decide_eq_decide]
  constructor
  · intro h
    repeat' split
    all_goals omega
  · intro h
    repeat' split at h
    all_goals omega
theorem rateDrop_iff (r : Int) : decide (r = 4 ∨ r = 7) = rateDrop r := by
  unfold rateDrop
  rw [Bool.decide_or]

set_option maxHeartbeats 3200000 in
theorem refHead_calls (t l : ByteArray) (r : Int) (d : Bool) (last : Int) (a5 a6 a7 : Option Addr) (n5 n6 n7 c5 c6 c7 : Nat) (w : World) (ht : t.size ≤ 4000000) (hl : l.size ≤ 4000000) (h0 : 0 ≤ r) (h1 : r ≤ 255) :
    Calls Tryz.prog 55 #[.agg #[.string t, .string l, .int .u8 r, .bool d, .int .i64 last, .slice a5 n5 c5, .slice a6 n6 c6, .slice a7 n7 c7]] w fun e w' => e = .returned (.int .i64 (headErr t l r d last)) ∧ Below w.heap.size w w' := by
  generalize hG : headErr t l r d last = G
  unfold headErr rateErr at hG
  have hRV := fun w => refRate_calls r w
  have hRD := fun w => refCanDrop_calls r w
  rw [rateValid_iff r h0 h1] at hRV
  rw [rateDrop_iff r] at hRD
  generalize rateValid r = V at *
  generalize rateDrop r = C at *
  have HRV := Lib.hid hRV
  have HRD := Lib.hid hRD
  have HG := Lib.hid hG
  clear hG hRV hRD
  generalize hcs : #[Value.string t, .string l, .int .u8 r, .bool d, .int .i64 last, .slice a5 n5 c5, .slice a6 n6 c6, .slice a7 n7 c7] = cs
  have f0 := box_cell w cs 28 0 (.string t) (by rw [← hcs]; rfl)
  have f1 := box_cell w cs 28 1 (.string l) (by rw [← hcs]; rfl)
  have f2 := box_cell w cs 28 2 (.int .u8 r) (by rw [← hcs]; rfl)
  have f3 := box_cell w cs 28 3 (.bool d) (by rw [← hcs]; rfl)
  have f4 := box_cell w cs 28 4 (.int .i64 last) (by rw [← hcs]; rfl)
  have HB := Lib.hid (fun (w1 : World) (h : Below (w.heap.size + 1) (w.alloc (.cells cs 28)) w1) => box_below h)
  have hb0 : Below (w.heap.size + 1) (w.alloc (.cells cs 28)) (w.alloc (.cells cs 28)) := Below.refl _ _
  have hsz : (w.alloc (.cells cs 28)).heap.size = w.heap.size + 1 := World.size_alloc _ _
  generalize hW0 : w.alloc (.cells cs 28) = W0 at *
  have HW0 := Lib.hid hW0
  have HSZ := Lib.hid hsz
  clear hW0 hsz
  rcases (show V = false ∨ (V = true ∧ d = false) ∨ (V = true ∧ d = true ∧ C = false) ∨ (V = true ∧ d = true ∧ C = true) by cases V <;> cases d <;> cases C <;> simp) with rfl | ⟨rfl, rfl⟩ | ⟨rfl, rfl, rfl⟩ | ⟨rfl, rfl, rfl⟩
  all_goals
    go_enter Tryz.func55, Tryz.ntmps55
    subst hcs
    go_wp2_with fail
    rw [HW0.out]
    refine (refValid_calls t _ ht).mono ?_
    rintro e w1 ⟨rfl, hb1⟩
    rw [HSZ.out] at hb1
    clear HW0
    go_wp2_with (first
      | (go_at_call 91; refine (refName_calls _ _ (by assumption)).mono ?_; rintro e w2 ⟨rfl, rfl⟩)
      | (go_at_call 92; refine (HRV.out _).mono ?_; rintro e w2 ⟨rfl, rfl⟩)
      | (go_at_call 93; refine (HRD.out _).mono ?_; rintro e w2 ⟨rfl, rfl⟩))
    all_goals
      go_ret
      refine ⟨ret_int ?_, HB.out _ hb1⟩
      rw [← HG.out]
      clear f0 f1 f2 f3 f4
      repeat (first
        | rfl
        | (refine val_pos ?_ ?_; focus (first | assumption | omega | (simp only [*]; decide) | (simp_all <;> fail)))
        | (refine val_neg ?_ ?_; focus (first | omega | (simp only [*]; decide) | (simp_all <;> fail))))

/-! ### regions -/
theorem grid_cases (x : Reg) : (gridB x = false ∧ (x.top < 0 ∨ (0 ≤ x.top ∧ 14 < x.top) ∨ (0 ≤ x.top ∧ x.top ≤ 14 ∧ x.height < 1) ∨ (0 ≤ x.top ∧ x.top ≤ 14 ∧ 1 ≤ x.height ∧ 15 - x.top < x.height) ∨ (0 ≤ x.top ∧ x.top ≤ 14 ∧ 1 ≤ x.height ∧ x.height ≤ 15 - x.top ∧ x.left < 0) ∨ (0 ≤ x.top ∧ x.top ≤ 14 ∧ 1 ≤ x.height ∧ x.height ≤ 15 - x.top ∧ 0 ≤ x.left ∧ 31 < x.left) ∨ (0 ≤ x.top ∧ x.top ≤ 14 ∧ 1 ≤ x.height ∧ x.height ≤ 15 - x.top ∧ 0 ≤ x.left ∧ x.left ≤ 31 ∧ x.width < 1) ∨ (0 ≤ x.top ∧ x.top ≤ 14 ∧ 1 ≤ x.height ∧ x.height ≤ 15 - x.top ∧ 0 ≤ x.left ∧ x.left ≤ 31 ∧ 1 ≤ x.width ∧ 32 - x.left < x.width))) ∨
    (gridB x = true ∧ 0 ≤ x.top ∧ x.top ≤ 14 ∧ 1 ≤ x.height ∧ x.height ≤ 15 - x.top ∧ 0 ≤ x.left ∧ x.left ≤ 31 ∧ 1 ≤ x.width ∧ x.width ≤ 32 - x.left) := by
  unfold gridB inB
  by_cases h : (0 ≤ x.top ∧ x.top ≤ 14) ∧ (1 ≤ x.height ∧ x.height ≤ 15 - x.top) ∧ (0 ≤ x.left ∧ x.left ≤ 31) ∧ (1 ≤ x.width ∧ x.width ≤ 32 - x.left)
  · right
    refine ⟨?_, by omega⟩
    simp [h]
  · left
    refine ⟨?_, by omega⟩
    rw [← Bool.not_eq_true, Bool.and_eq_true, Bool.and_eq_true, Bool.and_eq_true, decide_eq_true_iff, decide_eq_true_iff, decide_eq_true_iff, decide_eq_true_iff]
    omega

set_option maxHeartbeats 3200000 in
theorem refReg_calls (x : Reg) (w : World) (hf : x.fits) :
    Calls Tryz.prog 94 #[.agg x.enc.toArray] w fun e w' => e = .returned (.int .i64 (regErr x)) ∧ Below w.heap.size w w' := by
  have hgc := grid_cases x
  generalize hG : regErr x = G
  unfold regErr at hG
  obtain ⟨nm, top, height, left, width, align, bottom⟩ := x
  obtain ⟨hs, hT, hH, hL, hW, ha0, ha1⟩ := hf
  simp only [i64] at hs hT hH hL hW ha0 ha1
  simp only at hG hgc
  simp only [Reg.enc]
  have hnm := refName_calls nm
  generalize nameB nm = N at *
  generalize gridB ⟨nm, top, height, left, width, align, bottom⟩ = B at *
  have HNM := Lib.hid (fun w => hnm w hs)
  clear hnm
  cases N
  · rw [if_pos (by decide)] at hG
    subst hG
    clear hgc
    go_enter Tryz.func94, Tryz.ntmps94
    go_wp2_with (go_at_call 91; refine (HNM.out _).mono ?_; rintro e w2 ⟨rfl, rfl⟩)
    go_ret
    exact ⟨rfl, (Below.refl _ _).alloc (Nat.le_refl _) _⟩
  · rw [if_neg (by decide)] at hG
    rcases hgc with ⟨rfl, hc⟩ | ⟨rfl, g0, g1, g2, g3, g4, g5, g6, g7⟩
    · rw [if_pos (by decide)] at hG
      subst hG
      rcases hc with g0 | ⟨g0, g1⟩ | ⟨g0, g1, g2⟩ | ⟨g0, g1, g2, g3⟩ | ⟨g0, g1, g2, g3, g4⟩ | ⟨g0, g1, g2, g3, g4, g5⟩ | ⟨g0, g1, g2, g3, g4, g5, g6⟩ | ⟨g0, g1, g2, g3, g4, g5, g6, g7⟩
      all_goals
        go_enter Tryz.func94, Tryz.ntmps94
        go_wp2_with (go_at_call 91; refine (HNM.out _).mono ?_; rintro e w2 ⟨rfl, rfl⟩)
        go_ret
        exact ⟨rfl, (Below.refl _ _).alloc (Nat.le_refl _) _⟩
    · rw [if_neg (by decide)] at hG
      rcases (show (align = 1) ∨ (align = 2) ∨ (align = 3) ∨ ((align < 1 ∨ 3 < align) ∧ (align != 1) = true ∧ (align != 2) = true ∧ (align != 3) = true) by
        by_cases e1 : align = 1
        · exact .inl e1
        · by_cases e2 : align = 2
          · exact .inr (.inl e2)
          · by_cases e3 : align = 3
            · exact .inr (.inr (.inl e3))
            · exact .inr (.inr (.inr ⟨by omega, by simpa using e1, by simpa using e2, by simpa using e3⟩))) with rfl | rfl | rfl | ⟨ea, e1, e2, e3⟩
      · rw [if_neg (by omega)] at hG
        subst hG
        go_enter Tryz.func94, Tryz.ntmps94
        go_wp2_with (go_at_call 91; refine (HNM.out _).mono ?_; rintro e w2 ⟨rfl, rfl⟩)
        go_ret
        exact ⟨rfl, (Below.refl _ _).alloc (Nat.le_refl _) _⟩
      · rw [if_neg (by omega)] at hG
        subst hG
        go_enter Tryz.func94, Tryz.ntmps94
        go_wp2_with (go_at_call 91; refine (HNM.out _).mono ?_; rintro e w2 ⟨rfl, rfl⟩)
        go_ret
        exact ⟨rfl, (Below.refl _ _).alloc (Nat.le_refl _) _⟩
      · rw [if_neg (by omega)] at hG
        subst hG
        go_enter Tryz.func94, Tryz.ntmps94
        go_wp2_with (go_at_call 91; refine (HNM.out _).mono ?_; rintro e w2 ⟨rfl, rfl⟩)
        go_ret
        exact ⟨rfl, (Below.refl _ _).alloc (Nat.le_refl _) _⟩
      · rw [if_pos ea] at hG
        subst hG
        clear ea
        go_enter Tryz.func94, Tryz.ntmps94
        go_wp2_with (go_at_call 91; refine (HNM.out _).mono ?_; rintro e w2 ⟨rfl, rfl⟩)
        go_ret
        exact ⟨rfl, (Below.refl _ _).alloc (Nat.le_refl _) _⟩

end Go.Proofs.YtdgakmpopgpijaaGreatDoor

/- The contracts of the reference's Default, CheckList, Find and usable of regions: the same specifications as the program's. -/
namespace Go.Proofs.YtdgakmpopgpijaaGreatDoor
open Go.RowKit

theorem refDefault_calls (w : World) : Calls Tryz.prog 127 #[] w fun e w' => e = .returned (.agg defReg.enc.toArray) ∧ Below w.heap.size w w' := by
  simp only [defReg, Reg.enc]
  go_enter Tryz.func127, Tryz.ntmps127
  go_wp2
  exact bodyPost_ret (v := .agg #[.string ⟨#[]⟩, .int .i64 11, .int .i64 4, .int .i64 0, .int .i64 32, .int .u8 2, .bool true]) (by simp [results, Tryz.results127, go_sem]) rfl ⟨rfl, (Below.refl _ _).alloc (Nat.le_refl _) _⟩

theorem refList_many (a : Option Addr) (cap : Nat) (xs : List Reg) (w : World) (hn : 16 < xs.length) :
    Calls Tryz.prog 56 #[.slice a xs.length cap] w fun e w' => e = .returned (.int .i64 (listErr xs)) ∧ Below w.heap.size w w' := by
  rw [listErr, if_pos hn]
  have hn' : (16 : Int) < (xs.length : Int) := by omega
  go_enter Tryz.func56, Tryz.ntmps56
  go_wp2_with fail
  go_ret
  exact ⟨rfl, Below.refl _ _⟩

set_option maxHeartbeats 3200000 in
theorem refList_few (a : Option Addr) (cap : Nat) (xs : List Reg) (w : World) (hR : Regs w a xs) (hf : ∀ x ∈ xs, x.fits) (hn : xs.length ≤ 16) :
    Calls Tryz.prog 56 #[.slice a xs.length cap] w fun e w' => e = .returned (.int .i64 (listErr xs)) ∧ Below w.heap.size w w' := by
  rw [listErr, if_neg (by omega)]
  generalize hG : listFrom none xs = G
  have H0 := Lib.hid (show listFrom (prevOf xs 0) (xs.drop 0) = G by rw [List.drop_zero]; exact hG)
  have hn2 : decide ((16 : Int) < (xs.length : Int)) = false := by simp; omega
  clear hG
  go_enter Tryz.func56, Tryz.ntmps56
  go_wp2_with fail
  go_loopw [11] (fun i wr => ∃ k : Nat, k ≤ xs.length ∧ i = .int .i64 k ∧ listFrom (prevOf xs k) (xs.drop k) = G ∧ Below w.heap.size w wr) (fun i _ => xs.length - (intOf i).toNat)
  case atStart => exact ⟨0, by omega, rfl, H0.out, Below.refl _ _⟩
  case round =>
    obtain ⟨k, hk, rfl, hp, hb⟩ := hrel
    by_cases hlt : k < xs.length
    · obtain ⟨b, off, x, rfl, hbl, hx, hc, _⟩ := (hR.later hb).at_ hlt
      have hfx := hf x (List.mem_of_getElem? hx)
      have HC := Lib.hid (fun w => refReg_calls x w hfx)
      have hB1 : ∀ (o : Obj) (w1 : World), Below (wr.heap.size + 1) (wr.alloc o) w1 → Below w.heap.size w w1 := fun o w1 h => (hb.alloc hb.size o).trans (h.mono (by have := hb.size; omega))
      have HB1 := Lib.hid hB1
      have HN := Lib.hid (listFrom_next xs k x hx (prevOf xs k))
      have HS := Lib.hid (listFrom_stop xs k x hx (prevOf xs k))
      have HP := Lib.hid hp
      have hRr := hR.later hb
      obtain ⟨xn, xt, xh, xl, xw, xa, xb⟩ := x
      have d0 := hc 0 _ rfl; have d1 := hc 1 _ rfl; have d2 := hc 2 _ rfl; have d3 := hc 3 _ rfl; have d4 := hc 4 _ rfl; have d5 := hc 5 _ rfl; have d6 := hc 6 _ rfl
      simp only [Nat.add_zero] at d0 d1 d2 d3 d4 d5 d6
      cases hE : regErr ⟨xn, xt, xh, xl, xw, xa, xb⟩ != 0
      · have hE0 : regErr ⟨xn, xt, xh, xl, xw, xa, xb⟩ = 0 := by simpa using hE
        have HE0 := Lib.hid hE0
        simp only [Reg.enc] at HC
        rw [hE0] at HC
        clear hE hE0 hp hB1 hc
        rcases Nat.eq_zero_or_pos k with hk0 | hk0
        · have hst := Lib.hid (show stepErr (prevOf xs k) ⟨xn, xt, xh, xl, xw, xa, xb⟩ = 0 by rw [hk0]; simp [stepErr, prevOf, HE0.out])
          have hkd : decide (0 < k) = false := by simp; omega
          clear hRr hk0
          go_wp2_with (go_at_call 94; refine (HC.out _).mono ?_; rintro e w1 ⟨rfl, hb1⟩; simp only [World.size_alloc] at hb1)
          go_quiet (fail)
          go_wp2_with fail
          go_quiet (fail)
          go_wp2_with fail
          go_roundw
          case rel => exact ⟨k + 1, by omega, by go_num, by rw [← HN.out hst.out]; exact HP.out, below_drewN (HB1.out _ _ hb1) _⟩
          case measure => simp [intOf]; omega
        · obtain ⟨b', off', y, hab, _, hy, hcy, _⟩ := hRr.at_ (show k - 1 < xs.length by omega)
          simp only [Option.some.injEq, Addr.mk.injEq, and_true] at hab
          obtain ⟨rfl, rfl⟩ := hab
          obtain ⟨yn, yt, yh, yl, yw, ya, yb⟩ := y
          have e0 := hcy 0 _ rfl
          simp only [Nat.add_zero] at e0
          have hpv : prevOf xs k = some yn := by
            obtain ⟨j, rfl⟩ : ∃ j, k = j + 1 := ⟨k - 1, by omega⟩
            simp only [Nat.add_sub_cancel] at hy
            simp [prevOf, hy]
          have hst : stepErr (prevOf xs k) ⟨xn, xt, xh, xl, xw, xa, xb⟩ = if (xn.toList == yn.toList) = true then 7 else if Op.bytesLess xn.toList yn.toList = true then 8 else 0 := by
            rw [hpv]; simp [stepErr, HE0.out]
          have hcell : ∀ w1, Below (wr.heap.size + 1) (wr.alloc (.cells #[.string xn, .int .i64 xt, .int .i64 xh, .int .i64 xl, .int .i64 xw, .int .u8 xa, .bool xb] 101)) w1 → w1.cell? ⟨wr.heap.size, 0, none⟩ = some (.string xn) ∧ w1.cell? ⟨b, off + (k - 1) * 7, none⟩ = some (.string yn) := fun w1 h =>
            ⟨box_cell wr _ _ 0 _ rfl w1 h, by
              rw [h.cell (p := ⟨b, off + (k - 1) * 7, none⟩) (by simp; omega), World.cell?_alloc_lt _ _ _ (by simpa using hbl)]
              exact e0⟩
          have HCELL := Lib.hid hcell
          have hkd : decide (0 < k) = true := by simp; omega
          have hk1 : 1 ≤ k := hk0
          have hkz : (1 : Int) ≤ (k : Int) := by omega
          have hkl : (k : Int) - 1 < (xs.length : Int) := by omega
          have hwr : IntKind.i64.wrap ((k : Int) - 1) = (k : Int) - 1 := IntWalk.i64_in _ (by omega)
          have hkn : ((k : Int) - 1).toNat = k - 1 := by omega
          clear hcell hpv hRr hcy hy e0 hk0
          rcases h1 : xn.toList == yn.toList with _ | _
          · rcases h2 : Op.bytesLess xn.toList yn.toList with _ | _
            · rw [h1, h2, if_neg (by decide), if_neg (by decide)] at hst
              have HST := Lib.hid hst
              clear hst
              go_wp2_with (go_at_call 94; refine (HC.out _).mono ?_; rintro e w1 ⟨rfl, hb1⟩; simp only [World.size_alloc] at hb1; have hq1 := (HCELL.out _ hb1).1; have hq2 := (HCELL.out _ hb1).2)
              go_quiet (fail)
              go_wp2_with fail
              go_quiet (fail)
              go_wp2_with fail
              go_roundw
              case rel => exact ⟨k + 1, by omega, by go_num, by rw [← HN.out HST.out]; exact HP.out, below_drewN (HB1.out _ _ hb1) _⟩
              case measure => simp [intOf]; omega
            · rw [h1, h2, if_neg (by decide), if_pos rfl] at hst
              have HST := Lib.hid hst
              clear hst
              go_wp2_with (go_at_call 94; refine (HC.out _).mono ?_; rintro e w1 ⟨rfl, hb1⟩; simp only [World.size_alloc] at hb1; have hq1 := (HCELL.out _ hb1).1; have hq2 := (HCELL.out _ hb1).2)
              go_quiet (fail)
              go_wp2_with fail
              go_quiet (fail)
              go_wp2_with fail
              go_ret
              exact ⟨ret_int (by rw [← HP.out, HS.out (by rw [HST.out]; rfl), HST.out]), below_drewN (below_drewN (HB1.out _ _ hb1) _) _⟩
          · rw [h1, if_pos rfl] at hst
            have HST := Lib.hid hst
            clear hst
            go_wp2_with (go_at_call 94; refine (HC.out _).mono ?_; rintro e w1 ⟨rfl, hb1⟩; simp only [World.size_alloc] at hb1; have hq1 := (HCELL.out _ hb1).1; have hq2 := (HCELL.out _ hb1).2)
            go_quiet (fail)
            go_wp2_with fail
            go_ret
            exact ⟨ret_int (by rw [← HP.out, HS.out (by rw [HST.out]; rfl), HST.out]), below_drewN (HB1.out _ _ hb1) _⟩
      · have hst : stepErr (prevOf xs k) ⟨xn, xt, xh, xl, xw, xa, xb⟩ = regErr ⟨xn, xt, xh, xl, xw, xa, xb⟩ := by unfold stepErr; exact if_pos hE
        have HST := Lib.hid hst
        simp only [Reg.enc] at HC
        generalize regErr ⟨xn, xt, xh, xl, xw, xa, xb⟩ = E at *
        clear hst hp hB1 hc hRr hfx hx
        go_wp2_with (go_at_call 94; refine (HC.out _).mono ?_; rintro e w1 ⟨rfl, hb1⟩; simp only [World.size_alloc] at hb1)
        go_ret
        exact ⟨ret_int (by rw [← HP.out, HS.out (by rw [HST.out]; exact hE), HST.out]), HB1.out _ _ hb1⟩
    · obtain rfl : k = xs.length := by omega
      rw [List.drop_length] at hp
      have HP := Lib.hid hp
      clear hp H0
      go_wp2_with fail
      go_ret
      exact ⟨ret_int (by rw [← HP.out]; cases prevOf xs xs.length <;> rfl), hb⟩

theorem refList_calls (a : Option Addr) (cap : Nat) (xs : List Reg) (w : World) (hR : Regs w a xs) (hf : ∀ x ∈ xs, x.fits) :
    Calls Tryz.prog 56 #[.slice a xs.length cap] w fun e w' => e = .returned (.int .i64 (listErr xs)) ∧ Below w.heap.size w w' := by
  by_cases hn : 16 < xs.length
  · exact refList_many a cap xs w hn
  · exact refList_few a cap xs w hR hf (by omega)

set_option maxHeartbeats 800000 in
theorem refRFind_none (a : Option Addr) (cap : Nat) (xs : List Reg) (nm : ByteArray) (w : World) (hm : nm.toList = []) :
    Calls Tryz.prog 96 #[.slice a xs.length cap, .string nm] w (FindPost (findR xs nm) w) := by
  have hF : findR xs nm = (defReg, true) := by rw [findR, if_pos hm]
  rw [hF]
  have HD := Lib.hid (fun w => refDefault_calls w)
  clear hF
  go_enter Tryz.func96, Tryz.ntmps96
  go_wp2_with fail
  refine (HD.out _).mono ?_
  rintro e w1 ⟨rfl, hb1⟩
  rw [World.size_alloc] at hb1
  obtain ⟨c0, c1, c2, c3, c4, c5, c6, z0, z1, z2, z3, z4, z5, z6⟩ := ZeroBox.of w w1 hb1
  have HB := Lib.hid (box_below hb1)
  have hlt : w.heap.size < w1.heap.size := by have := hb1.size; rw [World.size_alloc] at this; omega
  clear hb1 HD
  simp only [defReg, Reg.enc]
  go_wp2_with fail
  exact bodyPost_ret (v := .tuple #[.agg #[.string ⟨#[]⟩, .int .i64 11, .int .i64 4, .int .i64 0, .int .i64 32, .int .u8 2, .bool true], .bool true]) (by simp [results, Tryz.results96, go_sem, *]) rfl ⟨rfl, below_seven HB.out (Nat.le_refl _) _ _ _ _ _ _ _⟩

set_option maxHeartbeats 1600000 in
theorem refRFind_some (a : Option Addr) (cap : Nat) (xs : List Reg) (nm : ByteArray) (w : World) (hR : Regs w a xs) (hm : ¬ nm.toList = []) (hl : xs.length ≤ 4000000) :
    Calls Tryz.prog 96 #[.slice a xs.length cap, .string nm] w (FindPost (findR xs nm) w) := by
  have hF : findR xs nm = findL nm xs := by rw [findR, if_neg hm]
  rw [hF]
  generalize hG : findL nm xs = G
  have H0 := Lib.hid (show findL nm (xs.drop 0) = G by rw [List.drop_zero]; exact hG)
  have hsz : (w.alloc (.cells zeroCells 101)).heap.size = w.heap.size + 1 := World.size_alloc _ _
  have hme : nm.toList.isEmpty = false := by simpa using hm
  clear hF hG
  go_enter Tryz.func96, Tryz.ntmps96
  go_wp2_with fail
  go_loopw [13] (fun i wr => ∃ k : Nat, k ≤ xs.length ∧ i = .int .i64 k ∧ findL nm (xs.drop k) = G ∧ Below (w.heap.size + 1) (w.alloc (.cells zeroCells 101)) wr) (fun i _ => xs.length - (intOf i).toNat)
  case atStart => exact ⟨0, by omega, rfl, H0.out, Below.refl _ _⟩
  case round =>
    obtain ⟨k, hk, rfl, hp, hb⟩ := hrel
    have hbw := box_below hb
    obtain ⟨c0, c1, c2, c3, c4, c5, c6, z0, z1, z2, z3, z4, z5, z6⟩ := ZeroBox.of w wr hb
    have hlt0 : w.heap.size < wr.heap.size := by have := hb.size; rw [hsz] at this; omega
    by_cases hlt : k < xs.length
    · obtain ⟨b, off, x, rfl, hbl, hx, hc, _⟩ := (hR.later hbw).at_ hlt
      cases he : x.name.toList == nm.toList
      · have hP := findL_drop_no nm xs k x hx he
        rw [hP] at hp
        obtain ⟨xn, xt, xh, xl, xw, xa, xb⟩ := x
        have d0 := hc 0 _ rfl; have d1 := hc 1 _ rfl; have d2 := hc 2 _ rfl; have d3 := hc 3 _ rfl; have d4 := hc 4 _ rfl; have d5 := hc 5 _ rfl; have d6 := hc 6 _ rfl
        simp only [Nat.add_zero] at he d0 d1 d2 d3 d4 d5 d6
        have HP := Lib.hid hp
        have HB := Lib.hid (fun o => below_alloc1 hb (by rw [hsz]; omega) o)
        clear hp hP hc hx H0 c0 c1 c2 c3 c4 c5 c6 z0 z1 z2 z3 z4 z5 z6 hsz hR hb hbw
        go_wp2_with fail
        go_roundw
        case rel => exact ⟨k + 1, by omega, by go_num, HP.out, HB.out _⟩
        case measure => simp [intOf]; omega
      · have hP := findL_drop_yes nm xs k x hx he
        rw [hP] at hp
        obtain ⟨xn, xt, xh, xl, xw, xa, xb⟩ := x
        have d0 := hc 0 _ rfl; have d1 := hc 1 _ rfl; have d2 := hc 2 _ rfl; have d3 := hc 3 _ rfl; have d4 := hc 4 _ rfl; have d5 := hc 5 _ rfl; have d6 := hc 6 _ rfl
        simp only [Nat.add_zero] at he d0 d1 d2 d3 d4 d5 d6
        have HP := Lib.hid hp
        have HB := Lib.hid hbw
        clear hp hP hc hx H0 hsz hR hb hbw
        go_wp2_with fail
        exact bodyPost_ret (v := .tuple #[.agg #[.string xn, .int .i64 xt, .int .i64 xh, .int .i64 xl, .int .i64 xw, .int .u8 xa, .bool xb], .bool true]) (by simp [results, Tryz.results96, go_sem, *]) rfl
          ⟨by rw [← HP.out]; rfl, below_seven_alloc HB.out (Nat.le_refl _) _ _ _ _ _ _ _ _⟩
    · obtain rfl : k = xs.length := by omega
      rw [List.drop_length] at hp
      have HP := Lib.hid hp
      have HB := Lib.hid hbw
      clear hp H0 hsz hR hb hbw
      go_wp2_with fail
      exact bodyPost_ret (v := .tuple #[.agg #[.string ⟨#[]⟩, .int .i64 0, .int .i64 0, .int .i64 0, .int .i64 0, .int .u8 0, .bool false], .bool false]) (by simp [results, Tryz.results96, go_sem, *]) rfl
        ⟨by rw [← HP.out]; rfl, below_seven HB.out (Nat.le_refl _) _ _ _ _ _ _ _⟩

theorem refRFind_calls (a : Option Addr) (cap : Nat) (xs : List Reg) (nm : ByteArray) (w : World) (hR : Regs w a xs) (hl : xs.length ≤ 4000000) :
    Calls Tryz.prog 96 #[.slice a xs.length cap, .string nm] w (FindPost (findR xs nm) w) := by
  by_cases hm : nm.toList = []
  · exact refRFind_none a cap xs nm w hm
  · exact refRFind_some a cap xs nm w hR hm hl

set_option maxHeartbeats 1600000 in
theorem refUsable_calls (x : Reg) (w : World) (hf : x.fits) :
    Calls Tryz.prog 130 #[.agg x.enc.toArray] w fun e w' => e = .returned (.bool (usableB x)) ∧ Below w.heap.size w w' := by
  have hU : usableB x = (isDef x || regErr x == 0) := rfl
  have hq := run_isDef x
  have hc := fun w => refReg_calls x w hf
  have hd := fun w => refDefault_calls w
  obtain ⟨nm, top, height, left, width, align, bottom⟩ := x
  generalize regErr ⟨nm, top, height, left, width, align, bottom⟩ = E at *
  generalize usableB ⟨nm, top, height, left, width, align, bottom⟩ = U at *
  generalize hD : isDef ⟨nm, top, height, left, width, align, bottom⟩ = D at *
  simp only [Reg.enc, defReg] at hq hc hd ⊢
  have HC := Lib.hid hc; have HD := Lib.hid hd
  clear hc hd hf hD
  generalize hcs : #[Value.string nm, .int .i64 top, .int .i64 height, .int .i64 left, .int .i64 width, .int .u8 align, .bool bottom] = cs
  have f0 := box_cell w cs 101 0 (.string nm) (by rw [← hcs]; rfl)
  have f1 := box_cell w cs 101 1 (.int .i64 top) (by rw [← hcs]; rfl)
  have f2 := box_cell w cs 101 2 (.int .i64 height) (by rw [← hcs]; rfl)
  have f3 := box_cell w cs 101 3 (.int .i64 left) (by rw [← hcs]; rfl)
  have f4 := box_cell w cs 101 4 (.int .i64 width) (by rw [← hcs]; rfl)
  have f5 := box_cell w cs 101 5 (.int .u8 align) (by rw [← hcs]; rfl)
  have f6 := box_cell w cs 101 6 (.bool bottom) (by rw [← hcs]; rfl)
  have HB := Lib.hid (fun (w1 : World) (h : Below (w.heap.size + 1) (w.alloc (.cells cs 101)) w1) => box_below h)
  have hb0 : Below (w.heap.size + 1) (w.alloc (.cells cs 101)) (w.alloc (.cells cs 101)).drew := (Below.refl _ _).drew
  have hsz : (w.alloc (.cells cs 101)).heap.size = w.heap.size + 1 := World.size_alloc _ _
  generalize hW0 : w.alloc (.cells cs 101) = W0 at *
  have HW0 := Lib.hid hW0
  have HSZ := Lib.hid hsz
  clear hW0 hsz
  go_enter Tryz.func130, Tryz.ntmps130
  subst hcs
  go_wp2_with fail
  rw [HW0.out]
  cases hE : E == 0
  · rw [hE, Bool.or_false] at hU
    have HU := Lib.hid hU
    clear hU
    go_region_with (first
      | (go_at_call 94; refine (HC.out _).mono ?_; rintro e w1 ⟨rfl, hb1⟩; replace hb1 : Below (w.heap.size + 1) W0 w1 := hb0.trans (hb1.mono (by have := hb0.size; rw [HSZ.out] at this; exact this)))
      | (go_at_call 127; refine (HD.out _).mono ?_; rintro e w2 ⟨rfl, hb2⟩; replace hb2 : Below (w.heap.size + 1) W0 w2 := hb1.trans (hb2.mono (by have := hb1.size; rw [HSZ.out] at this; exact this))))
    all_goals
      go_wp2_with fail
      go_ret
      rw [HU.out]
      exact ⟨rfl, HB.out _ hb2⟩
  · rw [hE, Bool.or_true] at hU
    have HU := Lib.hid hU
    clear hU
    go_region_with (first
      | (go_at_call 94; refine (HC.out _).mono ?_; rintro e w1 ⟨rfl, hb1⟩; replace hb1 : Below (w.heap.size + 1) W0 w1 := hb0.trans (hb1.mono (by have := hb0.size; rw [HSZ.out] at this; exact this))))
    all_goals
      go_wp2_with fail
      go_ret
      rw [HU.out]
      exact ⟨rfl, HB.out _ hb1⟩

end Go.Proofs.YtdgakmpopgpijaaGreatDoor

/- The contract of the reference's Place. -/
namespace Go.Proofs.YtdgakmpopgpijaaGreatDoor
open Go.RowKit

set_option maxRecDepth 100000 in
set_option maxHeartbeats 6400000 in
theorem refPlace_false (x : Reg) (a : Option Addr) (cap : Nat) (zs : List Int) (w : World) (hf : x.fits) (hI : Ints w a zs) (hl : zs.length ≤ 4000000) (hB : x.bottom = false) :
    Calls Tryz.prog 101 #[.agg x.enc.toArray, .slice a zs.length cap] w (PlacePost (placeErr x zs) w) := by
  have hU := fun w => refUsable_calls x w hf
  generalize hG : placeErr x zs = G
  unfold placeErr at hG
  obtain ⟨nm, top, height, left, width, align, bottom⟩ := x
  obtain ⟨_, hT, hH, hL, hW, ha0, ha1⟩ := hf
  simp only [i64] at hT hH hL hW ha0 ha1
  simp only at hB
  subst hB
  generalize usableB ⟨nm, top, height, left, width, align, false⟩ = U at *
  simp only [Reg.enc] at hU hG ⊢
  have HU := Lib.hid hU
  have HG := Lib.hid hG
  clear hU hG
  rcases (show U = false ∨ (U = true ∧ height < zs.length ∧ decide (height < (zs.length : Int)) = true) ∨ (U = true ∧ zs.length ≤ height ∧ decide (height < (zs.length : Int)) = false) by cases U <;> simp <;> omega) with rfl | ⟨rfl, hlh, hld⟩ | ⟨rfl, hlh, hld⟩
  all_goals
    generalize hcs : #[Value.string nm, .int .i64 top, .int .i64 height, .int .i64 left, .int .i64 width, .int .u8 align, .bool false] = cs
    have f0 := box_cell w cs 101 0 (.string nm) (by rw [← hcs]; rfl)
    have f1 := box_cell w cs 101 1 (.int .i64 top) (by rw [← hcs]; rfl)
    have f2 := box_cell w cs 101 2 (.int .i64 height) (by rw [← hcs]; rfl)
    have f3 := box_cell w cs 101 3 (.int .i64 left) (by rw [← hcs]; rfl)
    have f4 := box_cell w cs 101 4 (.int .i64 width) (by rw [← hcs]; rfl)
    have f5 := box_cell w cs 101 5 (.int .u8 align) (by rw [← hcs]; rfl)
    have f6 := box_cell w cs 101 6 (.bool false) (by rw [← hcs]; rfl)
    have HB := Lib.hid (fun (w1 : World) (h : Below (w.heap.size + 1) (w.alloc (.cells cs 101)) w1) => box_below h)
    have hb0 : Below (w.heap.size + 1) (w.alloc (.cells cs 101)) (w.alloc (.cells cs 101)) := Below.refl _ _
    have hsz : (w.alloc (.cells cs 101)).heap.size = w.heap.size + 1 := World.size_alloc _ _
    generalize hW0 : w.alloc (.cells cs 101) = W0 at *
    have HW0 := Lib.hid hW0
    have HSZ := Lib.hid hsz
    clear hW0 hsz
    go_enter Tryz.func101, Tryz.ntmps101
    subst hcs
    go_wp2_with fail
    rw [HW0.out]
    refine (HU.out _).mono ?_
    rintro e w1 ⟨rfl, hb1⟩
    rw [HSZ.out] at hb1
    clear HW0
    go_wp2_with fail
  · go_ret2
    exact ⟨.slice none 0 0, ret_two (by rw [← HG.out, if_pos (by decide)]), HB.out _ hb1⟩
  · go_ret2
    exact ⟨.slice none 0 0, ret_two (by rw [← HG.out, if_neg (by decide), if_pos hlh]), HB.out _ hb1⟩
  · obtain ⟨i0, hi, hz0, hz1, hz2⟩ := info_parts Tryz.info145
    have HI := Lib.hid hi; have H0 := Lib.hid hz0; have H1 := Lib.hid hz1; have H2 := Lib.hid hz2
    clear hi hz0 hz1 hz2
    have hp0 : placeFrom width (zs.drop 0) = G := by
      rw [List.drop_zero, ← HG.out, if_neg (by decide), if_neg (by omega)]
    have HP0 := Lib.hid hp0
    clear hp0 HG
    go_loopw [6, 20] (fun v i wr => ∃ k : Nat, k ≤ zs.length ∧ i = .int .i64 k ∧ placeFrom width (zs.drop k) = G ∧ Grow3 (w.heap.size + 1) W0 k v wr) (fun _ i _ => zs.length - (intOf i).toNat)
    case atStart => exact ⟨0, by omega, rfl, HP0.out, ⟨[], World.ownsRow_nil _ _ _ _⟩, hb1⟩
    case round =>
      obtain ⟨k, hk, rfl, hp, hGr⟩ := hrel
      have hbr := hGr.2
      have hlt0 : w.heap.size < wr.heap.size := by have := hbr.size; rw [HSZ.out] at this; omega
      by_cases hlt : k < zs.length
      · obtain ⟨b, off, z, rfl, hbl, hz, hc, _⟩ := (hI.later (HB.out _ hbr)).at_ hlt
        have d0 := hc 0 _ rfl
        simp only [Nat.add_zero, Nat.mul_one] at d0
        rw [placeFrom_at width zs k z hz] at hp
        have HP := Lib.hid hp
        clear hp hc hz HP0 hI
        rcases (show z < 0 ∨ (0 ≤ z ∧ width < z) ∨ (0 ≤ z ∧ z ≤ width) by omega) with h | ⟨h, h'⟩ | ⟨h, h'⟩
        · go_wp2_with fail
          go_ret2
          exact ⟨.slice none 0 0, ret_two (by rw [← HP.out, if_pos h]), HB.out _ hbr⟩
        · go_wp2_with fail
          go_ret2
          exact ⟨.slice none 0 0, ret_two (by rw [← HP.out, if_neg (by omega), if_pos h']), HB.out _ hbr⟩
        · rw [if_neg (by omega), if_neg (by omega)] at HP
          have hal : (align = 3 ∨ align = 2 ∨ ((align == 3) = false ∧ (align == 2) = false)) := by
            by_cases h3 : align = 3
            · exact .inl h3
            · by_cases h2 : align = 2
              · exact .inr (.inl h2)
              · exact .inr (.inr ⟨by simpa using h3, by simpa using h2⟩)
          rcases hal with rfl | rfl | ⟨e3, e2⟩
          all_goals
            obtain ⟨xs, hown⟩ := hGr.1
            go_wp2_with (at_builtin; refine wpList_append_new _ _ rfl (.tmp 73) (.tmp 75) 108 rfl (w.heap.size + 1) 145 i0 _ 3 24 Tryz.underlying108 HI.out H0.out H1.out H2.out rfl (by decide) _ _ _ rfl (hown.alloc _) _ rfl (by simp) rfl ?h1 ?h63 ?hb ?hbase ?_)
            case h1 => exact ⟨rfl, rfl, rfl⟩
            case h63 => unfold maxLen; omega
            case hb => omega
            case hbase => simp; omega
            intro v' w2 hown' hgrow
            have R := Grow3.step hGr (by rw [HSZ.out]; omega) hown' hgrow
            clear hown' hgrow hGr hown
            go_wp2_with fail
            go_roundw
            case rel => exact ⟨k + 1, by omega, by go_num, HP.out, R⟩
            case measure => simp [intOf]; omega
      · obtain rfl : k = zs.length := by omega
        rw [List.drop_length] at hp
        have HP := Lib.hid hp
        clear hp HP0
        go_wp2_with fail
        go_ret2
        exact ⟨_, ret_two (by rw [← HP.out]; rfl), HB.out _ hbr⟩

set_option maxRecDepth 100000 in
set_option maxHeartbeats 6400000 in
theorem refPlace_true (x : Reg) (a : Option Addr) (cap : Nat) (zs : List Int) (w : World) (hf : x.fits) (hI : Ints w a zs) (hl : zs.length ≤ 4000000) (hB : x.bottom = true) :
    Calls Tryz.prog 101 #[.agg x.enc.toArray, .slice a zs.length cap] w (PlacePost (placeErr x zs) w) := by
  have hU := fun w => refUsable_calls x w hf
  generalize hG : placeErr x zs = G
  unfold placeErr at hG
  obtain ⟨nm, top, height, left, width, align, bottom⟩ := x
  obtain ⟨_, hT, hH, hL, hW, ha0, ha1⟩ := hf
  simp only [i64] at hT hH hL hW ha0 ha1
  simp only at hB
  subst hB
  generalize usableB ⟨nm, top, height, left, width, align, true⟩ = U at *
  simp only [Reg.enc] at hU hG ⊢
  have HU := Lib.hid hU
  have HG := Lib.hid hG
  clear hU hG
  rcases (show U = false ∨ (U = true ∧ height < zs.length ∧ decide (height < (zs.length : Int)) = true) ∨ (U = true ∧ zs.length ≤ height ∧ decide (height < (zs.length : Int)) = false) by cases U <;> simp <;> omega) with rfl | ⟨rfl, hlh, hld⟩ | ⟨rfl, hlh, hld⟩
  all_goals
    generalize hcs : #[Value.string nm, .int .i64 top, .int .i64 height, .int .i64 left, .int .i64 width, .int .u8 align, .bool true] = cs
    have f0 := box_cell w cs 101 0 (.string nm) (by rw [← hcs]; rfl)
    have f1 := box_cell w cs 101 1 (.int .i64 top) (by rw [← hcs]; rfl)
    have f2 := box_cell w cs 101 2 (.int .i64 height) (by rw [← hcs]; rfl)
    have f3 := box_cell w cs 101 3 (.int .i64 left) (by rw [← hcs]; rfl)
    have f4 := box_cell w cs 101 4 (.int .i64 width) (by rw [← hcs]; rfl)
    have f5 := box_cell w cs 101 5 (.int .u8 align) (by rw [← hcs]; rfl)
    have f6 := box_cell w cs 101 6 (.bool true) (by rw [← hcs]; rfl)
    have HB := Lib.hid (fun (w1 : World) (h : Below (w.heap.size + 1) (w.alloc (.cells cs 101)) w1) => box_below h)
    have hb0 : Below (w.heap.size + 1) (w.alloc (.cells cs 101)) (w.alloc (.cells cs 101)) := Below.refl _ _
    have hsz : (w.alloc (.cells cs 101)).heap.size = w.heap.size + 1 := World.size_alloc _ _
    generalize hW0 : w.alloc (.cells cs 101) = W0 at *
    have HW0 := Lib.hid hW0
    have HSZ := Lib.hid hsz
    clear hW0 hsz
    go_enter Tryz.func101, Tryz.ntmps101
    subst hcs
    go_wp2_with fail
    rw [HW0.out]
    refine (HU.out _).mono ?_
    rintro e w1 ⟨rfl, hb1⟩
    rw [HSZ.out] at hb1
    clear HW0
    go_wp2_with fail
  · go_ret2
    exact ⟨.slice none 0 0, ret_two (by rw [← HG.out, if_pos (by decide)]), HB.out _ hb1⟩
  · go_ret2
    exact ⟨.slice none 0 0, ret_two (by rw [← HG.out, if_neg (by decide), if_pos hlh]), HB.out _ hb1⟩
  · obtain ⟨i0, hi, hz0, hz1, hz2⟩ := info_parts Tryz.info145
    have HI := Lib.hid hi; have H0 := Lib.hid hz0; have H1 := Lib.hid hz1; have H2 := Lib.hid hz2
    clear hi hz0 hz1 hz2
    have hp0 : placeFrom width (zs.drop 0) = G := by
      rw [List.drop_zero, ← HG.out, if_neg (by decide), if_neg (by omega)]
    have HP0 := Lib.hid hp0
    clear hp0 HG
    go_loopw [6, 20] (fun v i wr => ∃ k : Nat, k ≤ zs.length ∧ i = .int .i64 k ∧ placeFrom width (zs.drop k) = G ∧ Grow3 (w.heap.size + 1) W0 k v wr) (fun _ i _ => zs.length - (intOf i).toNat)
    case atStart => exact ⟨0, by omega, rfl, HP0.out, ⟨[], World.ownsRow_nil _ _ _ _⟩, hb1⟩
    case round =>
      obtain ⟨k, hk, rfl, hp, hGr⟩ := hrel
      have hbr := hGr.2
      have hlt0 : w.heap.size < wr.heap.size := by have := hbr.size; rw [HSZ.out] at this; omega
      by_cases hlt : k < zs.length
      · obtain ⟨b, off, z, rfl, hbl, hz, hc, _⟩ := (hI.later (HB.out _ hbr)).at_ hlt
        have d0 := hc 0 _ rfl
        simp only [Nat.add_zero, Nat.mul_one] at d0
        rw [placeFrom_at width zs k z hz] at hp
        have HP := Lib.hid hp
        clear hp hc hz HP0 hI
        rcases (show z < 0 ∨ (0 ≤ z ∧ width < z) ∨ (0 ≤ z ∧ z ≤ width) by omega) with h | ⟨h, h'⟩ | ⟨h, h'⟩
        · go_wp2_with fail
          go_ret2
          exact ⟨.slice none 0 0, ret_two (by rw [← HP.out, if_pos h]), HB.out _ hbr⟩
        · go_wp2_with fail
          go_ret2
          exact ⟨.slice none 0 0, ret_two (by rw [← HP.out, if_neg (by omega), if_pos h']), HB.out _ hbr⟩
        · rw [if_neg (by omega), if_neg (by omega)] at HP
          have hal : (align = 3 ∨ align = 2 ∨ ((align == 3) = false ∧ (align == 2) = false)) := by
            by_cases h3 : align = 3
            · exact .inl h3
            · by_cases h2 : align = 2
              · exact .inr (.inl h2)
              · exact .inr (.inr ⟨by simpa using h3, by simpa using h2⟩)
          rcases hal with rfl | rfl | ⟨e3, e2⟩
          all_goals
            obtain ⟨xs, hown⟩ := hGr.1
            go_wp2_with (at_builtin; refine wpList_append_new _ _ rfl (.tmp 73) (.tmp 75) 108 rfl (w.heap.size + 1) 145 i0 _ 3 24 Tryz.underlying108 HI.out H0.out H1.out H2.out rfl (by decide) _ _ _ rfl (hown.alloc _) _ rfl (by simp) rfl ?h1 ?h63 ?hb ?hbase ?_)
            case h1 => exact ⟨rfl, rfl, rfl⟩
            case h63 => unfold maxLen; omega
            case hb => omega
            case hbase => simp; omega
            intro v' w2 hown' hgrow
            have R := Grow3.step hGr (by rw [HSZ.out]; omega) hown' hgrow
            clear hown' hgrow hGr hown
            go_wp2_with fail
            go_roundw
            case rel => exact ⟨k + 1, by omega, by go_num, HP.out, R⟩
            case measure => simp [intOf]; omega
      · obtain rfl : k = zs.length := by omega
        rw [List.drop_length] at hp
        have HP := Lib.hid hp
        clear hp HP0
        go_wp2_with fail
        go_ret2
        exact ⟨_, ret_two (by rw [← HP.out]; rfl), HB.out _ hbr⟩

theorem refPlace_calls (x : Reg) (a : Option Addr) (cap : Nat) (zs : List Int) (w : World) (hf : x.fits) (hI : Ints w a zs) (hl : zs.length ≤ 4000000) :
    Calls Tryz.prog 101 #[.agg x.enc.toArray, .slice a zs.length cap] w (PlacePost (placeErr x zs) w) := by
  cases hB : x.bottom
  · exact refPlace_false x a cap zs w hf hI hl hB
  · exact refPlace_true x a cap zs w hf hI hl hB

end Go.Proofs.YtdgakmpopgpijaaGreatDoor
