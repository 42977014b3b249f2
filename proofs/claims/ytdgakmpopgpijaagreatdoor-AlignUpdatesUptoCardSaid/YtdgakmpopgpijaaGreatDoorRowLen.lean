/- The contracts of style.Len and style.Plain: the number of characters and the text of any row. -/
import Derived.Test.YtdgakmpopgpijaaGreatDoorStyle
import Derived.Test.YtdgakmpopgpijaaGreatDoorBuilder
set_option linter.unusedVariables false
namespace Go.Proofs.YtdgakmpopgpijaaGreatDoor
open Go.RowKit

theorem runesF_len (s : ByteArray) : ∀ b pos, (runesF s b pos).length ≤ b
  | 0, _ => by simp [runesF]
  | b + 1, pos => by
    simp only [runesF]
    split
    · have := runesF_len s b (pos + (Utf8.decode s pos).2)
      rw [List.length_cons]; omega
    · simp
theorem lenB_le (s : ByteArray) : -1 ≤ lenB s ∧ lenB s ≤ s.size := by
  unfold lenB
  have := runesF_len s s.size 0
  split
  · unfold runes; omega
  · omega

def lenFrom : List Run → Int → Int
  | [], acc => acc
  | x :: l, acc => if lenB x.text < 0 then -1 else lenFrom l (acc + lenB x.text)
/-- The number of characters of a row, -1 if its text is not valid. -/
def rowLen (runs : List Run) : Int := lenFrom runs 0

theorem drop_at {α : Type} (xs : List α) (k : Nat) (x : α) (hx : xs[k]? = some x) : xs.drop k = x :: xs.drop (k + 1) := by
  have hk : k < xs.length := (List.getElem?_eq_some_iff.1 hx).1
  have e : xs[k] = x := (List.getElem?_eq_some_iff.1 hx).2
  rw [List.drop_eq_getElem_cons hk, e]

theorem below_alloc_trans {w wr w1 : World} (hb : Below w.heap.size w wr) (o : Obj) (h1 : Below (wr.heap.size + 1) (wr.alloc o) w1) : Below w.heap.size w w1 :=
  (hb.alloc hb.size o).trans (h1.mono (by have := hb.size; omega))

set_option maxHeartbeats 1600000 in
theorem rowLen_calls (r : Row) (w : World) (hE : Env w) (hr : r.lies w) (hf : r.fits) :
    Calls Tryz.prog 114 #[.agg r.enc.toArray] w fun e w' => e = .returned (.int .i64 (rowLen r.runs)) ∧ Below w.heap.size w w' := by
  obtain ⟨a, cap, xs⟩ := r
  obtain ⟨hfx, hl, hsum⟩ := hf
  simp only [Row.lies] at hr
  simp only [Row.enc] at *
  generalize hG : rowLen xs = G
  have H0 := Lib.hid (show lenFrom (xs.drop 0) 0 = G by rw [List.drop_zero]; exact hG)
  have hs0 : 0 + sumText (xs.drop 0) ≤ 4000000 := by simpa using hsum
  clear hG
  go_enter Tryz.func114, Tryz.ntmps114
  go_wp2_with fail
  go_loopw [3, 10] (fun s i wr => ∃ (k acc : Nat), k ≤ xs.length ∧ i = .int .i64 k ∧ s = .int .i64 acc ∧ lenFrom (xs.drop k) acc = G ∧ acc + sumText (xs.drop k) ≤ 4000000 ∧ Below w.heap.size w wr) (fun _ i _ => xs.length - (intOf i).toNat)
  case atStart => exact ⟨0, 0, by omega, rfl, rfl, H0.out, hs0, (Below.refl _ _).alloc (Nat.le_refl _) _⟩
  case round =>
    obtain ⟨k, acc, hk, rfl, rfl, hp, hs, hb⟩ := hrel
    by_cases hlt : k < xs.length
    · obtain ⟨b, off, x, rfl, hbl, hx, hc, _⟩ := (hr.later hb).at_ hlt
      have hft := hfx x (List.mem_of_getElem? hx)
      rw [drop_at xs k x hx] at hp hs
      simp only [lenFrom] at hp
      simp only [sumText] at hs
      have hll := lenB_le x.text
      have HL := Lib.hid (fun w1 (h : Env w1) => len_calls x.text w1 hft.1 h)
      have HE := Lib.hid (fun w1 (h : Below w.heap.size w w1) => hE.below h (Nat.le_refl _))
      have hbo := fun o => hb.alloc hb.size o
      have HB := Lib.hid (fun o w1 h1 => below_alloc_trans (w1 := w1) hb o h1)
      obtain ⟨t, c, i, u, ru⟩ := x
      have d0 := hc 0 _ rfl; have d1 := hc 1 _ rfl; have d2 := hc 2 _ rfl; have d3 := hc 3 _ rfl; have d4 := hc 4 _ rfl
      simp only [Nat.add_zero] at d0 d1 d2 d3 d4 hp hs HL hll
      have HP := Lib.hid hp
      have HBO := Lib.hid hbo
      clear hp hc hx H0 hr hbo hfx hft
      generalize hL : lenB t = L at *
      clear hL
      obtain ⟨l0, l1⟩ := hll
      by_cases hneg : L < 0
      · go_wp2_with (go_at_call 140; refine (HL.out _ (HE.out _ (HBO.out _))).mono ?_; rintro e w1 ⟨rfl, hb1⟩; simp only [World.size_alloc] at hb1)
        go_ret
        exact ⟨ret_int (by rw [← HP.out, if_pos hneg]), HB.out _ _ hb1⟩
      · have hnn : 0 ≤ L := by omega
        go_wp2_with (go_at_call 140; refine (HL.out _ (HE.out _ (HBO.out _))).mono ?_; rintro e w1 ⟨rfl, hb1⟩; simp only [World.size_alloc] at hb1)
        have hq := HP.out
        rw [if_neg (by omega)] at hq
        have HQ := Lib.hid hq
        clear hq HP
        obtain ⟨m, rfl⟩ := Int.eq_ofNat_of_zero_le hnn
        go_roundw
        case rel => exact ⟨k + 1, acc + m, by omega, by go_num, by go_num, by have := HQ.out; simpa using this, by omega, HB.out _ _ hb1⟩
        case measure => simp [intOf]; omega
    · obtain rfl : k = xs.length := by omega
      rw [List.drop_length] at hp
      have HP := Lib.hid hp
      clear hp H0
      go_wp2_with fail
      go_ret
      exact ⟨ret_int (by rw [← HP.out]; rfl), hb⟩

/-- The bytes of the texts of runs, one behind the other. -/
def plainL : List Run → List UInt8
  | [] => []
  | x :: l => x.text.data.toList ++ plainL l
/-- The text of a row. -/
def plain (runs : List Run) : ByteArray := ⟨(plainL runs).toArray⟩

theorem plainL_len : ∀ l, (plainL l).length = sumText l
  | [] => rfl
  | x :: l => by simp [plainL, sumText, plainL_len l]

theorem bytesOf_append (l : List UInt8) (s : ByteArray) : Lib.byteCells l ++ Lib.strCells s = Lib.byteCells (l ++ s.data.toList) := by
  rw [Lib.byteCells_append, Lib.strCells_eq]

theorem builder_alloc {B b : Nat} {bs : List Value} {w : World} (h : Lib.IsBuilder 171 5 B b bs w) (o : Obj) : Lib.IsBuilder 171 5 B b bs (w.alloc o) := by
  have key : ∀ p, Lib.BuilderAt 171 5 B b p bs w → Lib.BuilderAt 171 5 B b p bs (w.alloc o) := by
    rintro p ⟨hB, v, hb, hown, hne⟩
    have hlt : b < w.heap.size := (Array.getElem?_eq_some_iff.1 hb).1
    exact ⟨hB, v, (Below.heap_alloc w o b hlt).trans hb, hown.alloc o, hne⟩
  rcases h with h | h
  · exact .inl (key _ h)
  · exact .inr (key _ h)

theorem builder_new (w : World) : Lib.IsBuilder 171 5 w.heap.size w.heap.size (Lib.byteCells []) (w.alloc (.cells #[.pointer none, .slice none 0 0] 171)) :=
  .inl ⟨Nat.le_refl _, .slice none 0 0, heap_alloc_last w _, World.ownsRow_nil _ _ _ _, by simp [Value.ownBlock]⟩

def PlainRel (xs : List Run) (w : World) (B k : Nat) (wr : World) : Prop :=
  ∃ done, done ++ plainL (xs.drop k) = plainL xs ∧ Lib.IsBuilder 171 5 B B (Lib.byteCells done) wr ∧ Below B w wr

theorem PlainRel.size {xs : List Run} {w : World} {B k : Nat} {wr : World} (h : PlainRel xs w B k wr) : B < wr.heap.size := by
  obtain ⟨done, _, hb, _⟩ := h
  rcases hb with ⟨_, v, hb, _⟩ | ⟨_, v, hb, _⟩
  · exact (Array.getElem?_eq_some_iff.1 hb).1
  · exact (Array.getElem?_eq_some_iff.1 hb).1

set_option maxHeartbeats 1600000 in
theorem plain_calls (r : Row) (w : World) (hr : r.lies w) (hf : r.fits) :
    Calls Tryz.prog 112 #[.agg r.enc.toArray] w fun e w' => e = .returned (.string (plain r.runs)) ∧ Below w.heap.size w w' := by
  obtain ⟨a, cap, xs⟩ := r
  obtain ⟨hfx, hl, hsum⟩ := hf
  simp only [Row.lies] at hr
  simp only [Row.enc] at *
  have hpl : (plainL xs).length ≤ 4000000 := by rw [plainL_len]; exact hsum
  have HPL := Lib.hid hpl
  go_enter Tryz.func112, Tryz.ntmps112
  go_wp2_with fail
  have hst : ∀ o, PlainRel xs (w.alloc o) (w.heap.size + 1) 0 ((w.alloc o).alloc (.cells #[.pointer none, .slice none 0 0] 171)) := fun o => by
    have h1 := builder_new (w.alloc o)
    rw [World.size_alloc] at h1
    exact ⟨[], by rw [List.drop_zero, List.nil_append], h1, (Below.refl _ _).alloc (by simp) _⟩
  have HST := Lib.hid hst
  clear hst hpl hsum
  go_loopw [9] (fun i wr => ∃ k : Nat, k ≤ xs.length ∧ i = .int .i64 k ∧ PlainRel xs (w.alloc (.cells #[.slice a xs.length cap] 88)) (w.heap.size + 1) k wr) (fun i _ => xs.length - (intOf i).toNat)
  case atStart => exact ⟨0, by omega, rfl, HST.out _⟩
  case round =>
    obtain ⟨k, hk, rfl, hP⟩ := hrel
    have hsz := hP.size
    obtain ⟨done, hd, hB, hbel⟩ := hP
    have hbw := box_below hbel
    by_cases hlt : k < xs.length
    · obtain ⟨b, off, x, rfl, hbl, hx, hc, _⟩ := (hr.later hbw).at_ hlt
      rw [drop_at xs k x hx] at hd
      simp only [plainL] at hd
      obtain ⟨t, c, i, u, ru⟩ := x
      have d0 := hc 0 _ rfl; have d1 := hc 1 _ rfl; have d2 := hc 2 _ rfl; have d3 := hc 3 _ rfl; have d4 := hc 4 _ rfl
      simp only [Nat.add_zero] at d0 d1 d2 d3 d4 hd
      have hlen : (Lib.byteCells done).length + t.size ≤ 140737488355328 := by
        have h1 := congrArg List.length hd
        have h2 := HPL.out
        simp only [List.length_append, Array.length_toList, ByteArray.size_data] at h1
        rw [Lib.byteCells_length]
        omega
      have HW := Lib.hid (fun o => writeString_calls (w.heap.size + 1) (w.heap.size + 1) (Lib.byteCells done) t (wr.alloc o) (builder_alloc hB o) hlen (by simp; omega))
      have HR := Lib.hid (fun (o : Obj) (w1 : World) (h1 : Lib.BuilderAt 171 5 (w.heap.size + 1) (w.heap.size + 1) (.pointer (some ⟨w.heap.size + 1, 0, none⟩)) (Lib.byteCells done ++ Lib.strCells t) w1) (h2 : Below (w.heap.size + 1) (wr.alloc o) w1) =>
        (show PlainRel xs (w.alloc (.cells #[.slice (some ⟨b, off, none⟩) xs.length cap] 88)) (w.heap.size + 1) (k + 1) w1 from
          ⟨done ++ t.data.toList, by rw [List.append_assoc]; exact hd, .inr (by rw [← bytesOf_append]; exact h1), (hbel.alloc (by omega) o).trans h2⟩))
      clear hc hx hr hd hB hbel hlen hfx
      go_wp2_with (go_at_call 137; refine (HW.out _).mono ?_; rintro e w1 ⟨rfl, h1, h2⟩)
      have hR := HR.out _ _ h1 h2
      go_roundw
      case rel => exact ⟨k + 1, by omega, by go_num, hR⟩
      case measure => simp [intOf]; omega
    · obtain rfl : k = xs.length := by omega
      rw [List.drop_length] at hd
      simp only [plainL, List.append_nil] at hd
      have HW := Lib.hid (Tryz.Builder_String_any (w.heap.size + 1) (w.heap.size + 1) done wr hB (by omega))
      have HB := Lib.hid (fun w1 (h : Below (w.heap.size + 1) wr w1) => hbw.trans (h.mono (by omega)))
      have HD := Lib.hid hd
      clear hd hB hbel hr hfx
      go_wp2_with (go_at_call 138; refine HW.out.mono ?_; rintro e w1 ⟨rfl, h1⟩)
      go_ret
      exact ⟨by rw [HD.out]; rfl, HB.out _ h1⟩

end Go.Proofs.YtdgakmpopgpijaaGreatDoor
