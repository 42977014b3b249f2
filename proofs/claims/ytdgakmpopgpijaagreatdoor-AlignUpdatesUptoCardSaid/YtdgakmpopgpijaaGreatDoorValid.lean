/- The contracts of charset.Valid and charset.Len: what they return for any string. -/
import Derived.Test.YtdgakmpopgpijaaGreatDoorIndex
import Derived.Test.YtdgakmpopgpijaaGreatDoorShelf
import Derived.Lib.RuneCount
import Derived.Lib.OthersKept
set_option linter.unusedVariables false
namespace Go.Proofs.YtdgakmpopgpijaaGreatDoor
open Go.RowKit

/-- What the calls ask of the variables of Go's library: the tables of package utf8; that bytealg.MaxLen holds a number. -/
def Env (w : World) : Prop := Lib.Utf8Tabs 0 1 w ∧ ∃ m, w.cell? ⟨2, 0, none⟩ = some (.int .i64 m)

theorem Env.below {w w' : World} {B : Nat} (h : Env w) (hb : Below B w w') (hB : w.heap.size ≤ B) : Env w' := by
  obtain ⟨h1, m, h2⟩ := h
  have hb' := hb.mono hB
  exact ⟨Utf8Tabs_below h1 hb', m, (hb'.cell (p := ⟨2, 0, none⟩) (World.block_lt_of_cell? w _ h2)).trans h2⟩

/-- Whether a string consists of characters of the repertoire. -/
def validB (s : ByteArray) : Bool := Lib.validD s.data.toList && (runes s).all (fun r => decide (0 ≤ idx r))
/-- The number of characters, -1 of a string that is not valid. -/
def lenB (s : ByteArray) : Int := if validB s then ((runes s).length : Int) else -1

theorem runes_count (s : ByteArray) : ∀ b pos, (runesF s b pos).length = Lib.runeCountFrom s b pos
  | 0, _ => rfl
  | b + 1, pos => by
    simp only [runesF, Lib.runeCountFrom]
    split
    · rw [List.length_cons, runes_count s b]; omega
    · rfl

theorem decode_le (s : ByteArray) (pos : Nat) : (Utf8.decode s pos).1 ≤ 1114111 := by
  have hb : ∀ k, (s.get! (pos + k)).toNat < 256 := fun k => (s.get! (pos + k)).toNat_lt
  have h0 := hb 0; have h1 := hb 1; have h2 := hb 2; have h3 := hb 3
  simp only [Utf8.decode]
  repeat' split
  all_goals simp_all [Utf8.runeError, Utf8.valid]
  all_goals omega

theorem valid_no (s : ByteArray) (w : World) (hs : s.size ≤ 4000000) (hE : Env w) (hv : Lib.validD s.data.toList = false) :
    Calls Tryz.prog 62 #[.string s] w fun e w' => e = .returned (.bool (validB s)) ∧ Below w.heap.size w w' := by
  have hn : validB s = false := by simp [validB, hv]
  have HN := Lib.hid hn
  have hc := Tryz.utf8_ValidString s w (by omega) hE.1
  rw [hv] at hc
  have HC := Lib.hid hc
  clear hn hv hc
  go_enter Tryz.func62, Tryz.ntmps62
  go_wp2_with fail
  refine HC.out.mono ?_
  rintro e w1 ⟨rfl, hb⟩
  go_wp2_with fail
  go_ret
  rw [HN.out]
  exact ⟨rfl, hb⟩

/-- The iterator's block stands, and all that was there. -/
def IterAt (w : World) (s : ByteArray) (g pos : Nat) (wr : World) : Prop := wr.heap[g]? = some (.stringIter s pos) ∧ Below g w wr

theorem IterAt.pos {w wr : World} {s : ByteArray} {g pos : Nat} (h : IterAt w s g pos wr) : wr.iterPos g = pos := by simp [World.iterPos, h.1]
theorem IterAt.start (w : World) (s : ByteArray) : IterAt w s w.heap.size 0 (w.alloc (.stringIter s 0)) :=
  ⟨World.iter_heap w s 0, (Below.refl _ _).alloc (Nat.le_refl _) _⟩
theorem IterAt.lt {w wr : World} {s : ByteArray} {g pos : Nat} (h : IterAt w s g pos wr) : g < wr.heap.size := (Array.getElem?_eq_some_iff.1 h.1).1
/-- Behind the iterator's step and a call that lays new blocks. -/
theorem IterAt.step {w wr w2 : World} {s : ByteArray} {g pos : Nat} (h : IterAt w s g pos wr) (pos' : Nat) (hb : Below (wr.iterAt g s pos').heap.size (wr.iterAt g s pos') w2) : IterAt w s g pos' w2 := by
  have hl := h.lt
  refine ⟨?_, (Lib.below_iterAt h.2 (Nat.le_refl _) s pos').trans (hb.mono (by rw [Lib.iterAt_size]; omega))⟩
  rw [hb.block g (by rw [Lib.iterAt_size]; exact hl)]
  exact Lib.iterAt_heap wr g s pos pos' h.1

theorem all_end (s : ByteArray) (b pos : Nat) (h : ¬ pos < s.size) (p : Nat → Bool) : (runesF s b pos).all p = true := by rw [runesF_end s b pos h]; rfl

set_option maxHeartbeats 400000 in
theorem valid_yes (s : ByteArray) (w : World) (hs : s.size ≤ 4000000) (hE : Env w) (hv : Lib.validD s.data.toList = true) :
    Calls Tryz.prog 62 #[.string s] w fun e w' => e = .returned (.bool (validB s)) ∧ Below w.heap.size w w' := by
  have hG : validB s = (runesF s s.size 0).all (fun r => decide (0 ≤ idx r)) := by simp [validB, hv, runes]
  generalize hGg : validB s = G at *
  have H0 := Lib.hid hG.symm
  have hc := Tryz.utf8_ValidString s w (by omega) hE.1
  rw [hv] at hc
  have HC := Lib.hid hc
  clear hG hGg hv hc
  go_enter Tryz.func62, Tryz.ntmps62
  go_wp2_with fail
  refine HC.out.mono ?_
  rintro e w1 ⟨rfl, hb1⟩
  go_wp2_with fail
  go_loopw [4] (fun _ wr => ∃ (pos b : Nat), IterAt w1 s w1.heap.size pos wr ∧ (runesF s b pos).all (fun r => decide (0 ≤ idx r)) = G ∧ s.size ≤ pos + b) (fun _ wr => s.size - wr.iterPos w1.heap.size)
  case atStart => exact ⟨0, s.size, IterAt.start _ _, H0.out, by omega⟩
  case round =>
    obtain ⟨pos, b, hI, hp, hb⟩ := hrel
    have hpos := Lib.hid hI.pos
    by_cases hlt : pos < s.size
    · obtain ⟨c, rfl, hn⟩ := runesF_next s b pos hlt hb
      have hwd := width_pos s pos hlt
      have hle := decode_le s pos
      have hnx : ∀ ty, (Instr.next (.pointer (some ⟨w1.heap.size, 0, none⟩)) true ty).run Tryz.prog wr = _ := fun ty => Lib.run_next_any_at wr w1.heap.size s pos ty hI.1 hlt
      rw [hn, List.all_cons] at hp
      generalize (Utf8.decode s pos).1 = x at *
      generalize (Utf8.decode s pos).2 = d at *
      have HS := Lib.hid (fun w2 => hI.step (w2 := w2) (pos + d))
      have HP := Lib.hid hp
      clear hp hn H0 hI
      by_cases hx : 0 ≤ idx x
      · go_wp2_with (go_at_call 105; refine (index_calls _ _ (by omega) (by omega)).mono ?_; rintro e w2 ⟨rfl, hb2⟩)
        have hI2 := HS.out _ hb2
        have hq := HP.out
        simp only [hx, decide_true, Bool.true_and] at hq
        go_roundw
        case rel => exact ⟨pos + d, c, hI2, hq, by omega⟩
        case measure => rw [hI2.pos, hpos.out]; omega
      · have hx' : idx x < 0 := by omega
        go_wp2_with (go_at_call 105; refine (index_calls _ _ (by omega) (by omega)).mono ?_; rintro e w2 ⟨rfl, hb2⟩)
        go_ret
        have hI2 := HS.out _ hb2
        have hq := HP.out
        rw [show decide (0 ≤ idx (x : Int)) = false by simp; omega, Bool.false_and] at hq
        exact ⟨by rw [← hq]; rfl, hb1.trans (hI2.2.mono hb1.size)⟩
    · have hnx : ∀ ty, (Instr.next (.pointer (some ⟨w1.heap.size, 0, none⟩)) true ty).run Tryz.prog wr = _ := fun ty => Lib.run_next_end_at wr w1.heap.size s pos ty hI.1 hlt
      rw [all_end s b pos hlt] at hp
      have HP := Lib.hid hp
      clear hp H0
      go_wp2_with fail
      go_ret
      exact ⟨by rw [← HP.out]; rfl, hb1.trans (hI.2.mono hb1.size)⟩

theorem valid_calls (s : ByteArray) (w : World) (hs : s.size ≤ 4000000) (hE : Env w) :
    Calls Tryz.prog 62 #[.string s] w fun e w' => e = .returned (.bool (validB s)) ∧ Below w.heap.size w w' := by
  cases hv : Lib.validD s.data.toList
  · exact valid_no s w hs hE hv
  · exact valid_yes s w hs hE hv

theorem len_calls (s : ByteArray) (w : World) (hs : s.size ≤ 4000000) (hE : Env w) :
    Calls Tryz.prog 140 #[.string s] w fun e w' => e = .returned (.int .i64 (lenB s)) ∧ Below w.heap.size w w' := by
  have hL : lenB s = if validB s then (Lib.runeCount s : Int) else -1 := by
    unfold lenB runes Lib.runeCount
    rw [runes_count]
  have hc := valid_calls s w hs hE
  cases hv : validB s
  all_goals
    rw [hv] at hL hc
    have HL := Lib.hid hL; have HC := Lib.hid hc
    clear hL hc hv
    go_enter Tryz.func140, Tryz.ntmps140
    go_wp2_with fail
    refine HC.out.mono ?_
    rintro e w1 ⟨rfl, hb⟩
    go_wp2_with fail
  · go_ret
    rw [HL.out]
    exact ⟨rfl, hb⟩
  · refine (Tryz.utf8_RuneCountInString s w1 (by omega)).mono ?_
    rintro e w2 ⟨rfl, pos, rfl⟩
    go_wp2_with fail
    go_ret
    rw [HL.out]
    exact ⟨rfl, hb.trans (((Below.refl _ _).alloc (Nat.le_refl _) _).mono hb.size)⟩

end Go.Proofs.YtdgakmpopgpijaaGreatDoor
