/- The contracts of the reference of rows and events. -/
import Derived.Test.YtdgakmpopgpijaaGreatDoorJoinA
import Derived.Test.YtdgakmpopgpijaaGreatDoorRowCheck
import Derived.Test.YtdgakmpopgpijaaGreatDoorLess
import Derived.Test.YtdgakmpopgpijaaGreatDoorEvCheck
set_option linter.unusedVariables false
/- The contracts of the reference's runes and Len of strings, Valid, Len, Plain and Check of styled rows: the same specifications as the program's. -/
namespace Go.Proofs.YtdgakmpopgpijaaGreatDoor
open Go.RowKit

theorem Tryz.info21 : (Tryz.prog.info? 21).map (fun i => (i.zero, i.size, i.bytes)) = some (some (.int .i32 0), 1, 4) := by kernel_rfl

theorem ownSlice {w : World} {base e size n : Nat} {v : Value} {xs : List Value} (h : w.ownsRow base e size v n xs) : ∃ a c, v = .slice a n c := by
  rcases h.2 with ⟨rfl, h0⟩ | ⟨g', cap, cur, rfl, _⟩
  · exact ⟨none, 0, by rw [h0]⟩
  · exact ⟨_, cap, rfl⟩

/-- The characters that were found lie in a row of their own; the iterator stands behind them. -/
def RunesRel (s : ByteArray) (w : World) (N : Nat) (v : Value) (wr : World) : Prop :=
  ∃ (pos b k : Nat) (vs : List Value), (runesF s b pos).length + k = N ∧ s.size ≤ pos + b ∧ k ≤ pos ∧ k ≤ s.size ∧ wr.ownsRow (w.heap.size + 1) 21 1 v k vs ∧ wr.heap[w.heap.size]? = some (.stringIter s pos) ∧ Below w.heap.size w wr

set_option maxHeartbeats 1600000 in
theorem refRunes_calls (s : ByteArray) (w : World) (hs : s.size ≤ 4000000) :
    Calls Tryz.prog 152 #[.string s] w fun e w' => (∃ a cap, e = .returned (.slice a (runes s).length cap)) ∧ Below w.heap.size w w' := by
  obtain ⟨i0, hi, hz0, hz1, hz2⟩ := info_parts Tryz.info21
  have HI := Lib.hid hi; have J0 := Lib.hid hz0; have J1 := Lib.hid hz1; have J2 := Lib.hid hz2
  clear hi hz0 hz1 hz2
  generalize hN : (runes s).length = N
  have H0 := Lib.hid (show (runesF s s.size 0).length + 0 = N from hN)
  clear hN
  go_enter Tryz.func152, Tryz.ntmps152
  go_wp2_with fail
  go_loopw [3] (fun v wr => RunesRel s w N v wr) (fun _ wr => s.size - wr.iterPos w.heap.size)
  case atStart => exact ⟨0, s.size, 0, [], H0.out, by omega, by omega, by omega, World.ownsRow_nil _ _ _ _, World.iter_heap w s 0, (Below.refl _ _).alloc (Nat.le_refl _) _⟩
  case round =>
    obtain ⟨pos, b, k, vs, hp, hb, hkp, hks, hown, hit, hbe⟩ := hrel
    have hpos := Lib.hid (show wr.iterPos w.heap.size = pos by simp [World.iterPos, hit])
    by_cases hlt : pos < s.size
    · obtain ⟨c, rfl, hn⟩ := runesF_next s b pos hlt hb
      have hwd := width_pos s pos hlt
      have hle := decode_le s pos
      have hnx : ∀ ty, (Instr.next (.pointer (some ⟨w.heap.size, 0, none⟩)) true ty).run Tryz.prog wr = _ := fun ty => Lib.run_next_any_at wr w.heap.size s pos ty hit hlt
      rw [hn, List.length_cons] at hp
      generalize (Utf8.decode s pos).1 = x at *
      generalize (Utf8.decode s pos).2 = d at *
      have hgl : w.heap.size < wr.heap.size := (Array.getElem?_eq_some_iff.1 hit).1
      have hown2 := ownsRow_iterAt hown (show w.heap.size < w.heap.size + 1 by omega) s (pos + d)
      have HI2 := Lib.hid (Lib.iterAt_heap wr w.heap.size s pos (pos + d) hit)
      have hsz : (wr.iterAt w.heap.size s (pos + d)).heap.size = wr.heap.size := Lib.iterAt_size _ _ _ _
      have HBE := Lib.hid (Lib.below_iterAt hbe (Nat.le_refl _) s (pos + d))
      have HLT := Lib.hid (fun j hj => (hown.lt j hj).1)
      clear hown hn H0 hit hbe
      go_wp2_with (at_builtin; refine wpList_append_new _ _ rfl (.tmp 11) (.tmp 13) 187 rfl (w.heap.size + 1) 21 i0 _ 1 4 Tryz.underlying187 HI.out J0.out J1.out J2.out rfl (by decide) _ _ _ rfl hown2 _ rfl (by simp [hsz]) rfl ?h1 ?h63 ?hb ?hbase ?_)
      case h1 => first | rfl | (intro u hu; simp at hu; subst hu; rfl)
      case h63 => unfold maxLen; omega
      case hb => omega
      case hbase => omega
      intro v' w2 hown' hgrow
      have hI3 : w2.heap[w.heap.size]? = some (.stringIter s (pos + d)) := by
        rw [hgrow.block w.heap.size (by simp; omega) (fun h => by have := HLT.out w.heap.size h.symm; omega), Below.heap_alloc _ _ _ (by omega)]
        exact HI2.out
      have R : RunesRel s w N v' w2 := ⟨pos + d, c, k + 1, _, by omega, by omega, by omega, by omega, hown', hI3, (HBE.out.alloc (by omega) _).grown hgrow (by simp; omega) (fun j hj => by have := HLT.out j hj; omega)⟩
      have hpos2 : w2.iterPos w.heap.size = pos + d := by simp [World.iterPos, hI3]
      clear hown' hgrow hown2
      go_wp2_with fail
      go_roundw
      case rel => exact R
      case measure => rw [hpos2, hpos.out]; omega
    · have hnx : ∀ ty, (Instr.next (.pointer (some ⟨w.heap.size, 0, none⟩)) true ty).run Tryz.prog wr = _ := fun ty => Lib.run_next_end_at wr w.heap.size s pos ty hit hlt
      rw [runesF_end s b pos hlt, List.length_nil, Nat.zero_add] at hp
      subst hp
      obtain ⟨a, cap, hv⟩ := ownSlice hown
      subst hv
      have HB := Lib.hid hbe
      clear hown hit hbe H0
      go_wp2_with fail
      go_ret
      exact ⟨⟨_, _, rfl⟩, HB.out⟩

theorem refLen_calls (s : ByteArray) (w : World) (hs : s.size ≤ 4000000) :
    Calls Tryz.prog 129 #[.string s] w fun e w' => e = .returned (.int .i64 (lenB s)) ∧ Below w.heap.size w w' := by
  have hL : lenB s = if validB s = true then ((runes s).length : Int) else -1 := rfl
  have hV := refValid_calls s w hs
  have hR := fun w => refRunes_calls s w hs
  have hB : (runes s).length ≤ 4000000 := Nat.le_trans (runesF_len s s.size 0) hs
  generalize lenB s = L at *
  generalize validB s = V at *
  generalize (runes s).length = N at *
  have HV := Lib.hid hV; have HR := Lib.hid hR
  clear hV hR
  cases V
  · rw [if_neg (by decide)] at hL
    subst hL
    go_enter Tryz.func129, Tryz.ntmps129
    go_wp2_with fail
    refine HV.out.mono ?_
    rintro e w1 ⟨rfl, hb1⟩
    go_wp2_with fail
    go_ret
    exact ⟨rfl, hb1⟩
  · rw [if_pos rfl] at hL
    subst hL
    go_enter Tryz.func129, Tryz.ntmps129
    go_wp2_with fail
    refine HV.out.mono ?_
    rintro e w1 ⟨rfl, hb1⟩
    go_wp2_with fail
    refine (HR.out _).mono ?_
    rintro e w2 ⟨⟨a, cap, rfl⟩, hb2⟩
    have hb3 := hb1.trans (hb2.mono hb1.size)
    clear hb1 hb2
    go_wp2_with fail
    go_ret
    exact ⟨rfl, hb3⟩

theorem refStyle_calls (c : Int) (i u : Bool) (w : World) : Calls Tryz.prog 128 #[.agg #[.int .u8 c, .bool i, .bool u]] w fun e w' => e = .returned (.bool (decide (c ≤ 6))) ∧ Below w.heap.size w w' := by
  go_enter Tryz.func128, Tryz.ntmps128
  go_wp2
  go_ret
  exact ⟨rfl, (Below.refl _ _).alloc (Nat.le_refl _) _⟩

set_option maxHeartbeats 1600000 in
theorem refRowLen_calls (r : Row) (w : World) (hE : Env w) (hr : r.lies w) (hf : r.fits) :
    Calls Tryz.prog 100 #[.agg r.enc.toArray] w fun e w' => e = .returned (.int .i64 (rowLen r.runs)) ∧ Below w.heap.size w w' := by
  obtain ⟨a, cap, xs⟩ := r
  obtain ⟨hfx, hl, hsum⟩ := hf
  simp only [Row.lies] at hr
  simp only [Row.enc] at *
  generalize hG : rowLen xs = G
  have H0 := Lib.hid (show lenFrom (xs.drop 0) 0 = G by rw [List.drop_zero]; exact hG)
  have hs0 : 0 + sumText (xs.drop 0) ≤ 4000000 := by simpa using hsum
  clear hG
  go_enter Tryz.func100, Tryz.ntmps100
  go_wp2_with fail
  go_loopw [3, 10] (fun s i wr => ∃ (k acc : Nat), k ≤ xs.length ∧ i = .int .i64 k ∧ s = .int .i64 acc ∧ lenFrom (xs.drop k) acc = G ∧ acc + sumText (xs.drop k) ≤ 4000000 ∧ Below w.heap.size w wr) (fun _ i _ => xs.length - (intOf i).toNat)
  case atStart => exact ⟨0, 0, by omega, rfl, rfl, H0.out, hs0, (Below.refl _ _).alloc (Nat.le_refl _) _⟩
  case round =>
    obtain ⟨k, acc, hk, rfl, rfl, hp, hs, hb⟩ := hrel
    by_cases hlt : k < xs.length
    · obtain ⟨b, off, x, rfl, hbl, hx, hc, _⟩ := (hr.later hb).at_ hlt
      have hft := hfx x (List.mem_of_getElem? hx)
      rw [drop_at xs k x hx] at hp hs
      simp only [lenFrom] at hp
      simp only [sumText] at hs
      have hll := lenB_le x.text
      have HL := Lib.hid (fun w1 (h : Env w1) => refLen_calls x.text w1 hft.1)
      have HE := Lib.hid (fun w1 (h : Below w.heap.size w w1) => hE.below h (Nat.le_refl _))
      have hbo := fun o => hb.alloc hb.size o
      have HB := Lib.hid (fun o w1 h1 => below_alloc_trans (w1 := w1) hb o h1)
      obtain ⟨t, c, i, u, ru⟩ := x
      have d0 := hc 0 _ rfl; have d1 := hc 1 _ rfl; have d2 := hc 2 _ rfl; have d3 := hc 3 _ rfl; have d4 := hc 4 _ rfl
      simp only [Nat.add_zero] at d0 d1 d2 d3 d4 hp hs HL hll
      have HP := Lib.hid hp
      have HBO := Lib.hid hbo
      clear hp hc hx H0 hr hbo hfx hft
      generalize hL : lenB t = L at *
      clear hL
      obtain ⟨l0, l1⟩ := hll
      by_cases hneg : L < 0
      · go_wp2_with (go_at_call 129; refine (HL.out _ (HE.out _ (HBO.out _))).mono ?_; rintro e w1 ⟨rfl, hb1⟩; simp only [World.size_alloc] at hb1)
        go_ret
        exact ⟨ret_int (by rw [← HP.out, if_pos hneg]), HB.out _ _ hb1⟩
      · have hnn : 0 ≤ L := by omega
        go_wp2_with (go_at_call 129; refine (HL.out _ (HE.out _ (HBO.out _))).mono ?_; rintro e w1 ⟨rfl, hb1⟩; simp only [World.size_alloc] at hb1)
        have hq := HP.out
        rw [if_neg (by omega)] at hq
        have HQ := Lib.hid hq
        clear hq HP
        obtain ⟨m, rfl⟩ := Int.eq_ofNat_of_zero_le hnn
        go_roundw
        case rel => exact ⟨k + 1, acc + m, by omega, by go_num, by go_num, by have := HQ.out; simpa using this, by omega, HB.out _ _ hb1⟩
        case measure => simp [intOf]; omega
    · obtain rfl : k = xs.length := by omega
      rw [List.drop_length] at hp
      have HP := Lib.hid hp
      clear hp H0
      go_wp2_with fail
      go_ret
      exact ⟨ret_int (by rw [← HP.out]; rfl), hb⟩

set_option maxHeartbeats 1600000 in
theorem refPlain_calls (r : Row) (w : World) (hr : r.lies w) (hf : r.fits) :
    Calls Tryz.prog 99 #[.agg r.enc.toArray] w fun e w' => e = .returned (.string (plain r.runs)) ∧ Below w.heap.size w w' := by
  obtain ⟨a, cap, xs⟩ := r
  obtain ⟨hfx, hl, hsum⟩ := hf
  simp only [Row.lies] at hr
  simp only [Row.enc] at *
  have HPL := Lib.hid (show (plainL xs).length ≤ 4000000 by rw [plainL_len]; exact hsum)
  clear hfx hsum
  go_enter Tryz.func99, Tryz.ntmps99
  go_wp2_with fail
  go_loopw [3, 9] (fun v i wr => ∃ (k : Nat) (acc : ByteArray), k ≤ xs.length ∧ i = .int .i64 k ∧ v = .string acc ∧ acc.data.toList ++ plainL (xs.drop k) = plainL xs ∧ Below w.heap.size w wr) (fun _ i _ => xs.length - (intOf i).toNat)
  case atStart => exact ⟨0, ⟨#[]⟩, by omega, rfl, rfl, by simp, (Below.refl _ _).alloc (Nat.le_refl _) _⟩
  case round =>
    obtain ⟨k, acc, hk, rfl, rfl, hp, hb⟩ := hrel
    by_cases hlt : k < xs.length
    · obtain ⟨b, off, x, rfl, hbl, hx, hc, _⟩ := (hr.later hb).at_ hlt
      rw [drop_at xs k x hx] at hp
      simp only [plainL] at hp
      obtain ⟨t, c, i, u, ru⟩ := x
      have d0 := hc 0 _ rfl; have d1 := hc 1 _ rfl; have d2 := hc 2 _ rfl; have d3 := hc 3 _ rfl; have d4 := hc 4 _ rfl
      simp only [Nat.add_zero] at d0 d1 d2 d3 d4 hp
      have hlen : acc.size + t.size ≤ 4000000 := by
        have h1 := congrArg List.length hp
        have h2 := HPL.out
        simp only [List.length_append, Array.length_toList, ByteArray.size_data] at h1
        omega
      have HP := Lib.hid (show (acc ++ t).data.toList ++ plainL (xs.drop (k + 1)) = plainL xs by rw [← hp]; simp)
      have HB := Lib.hid (fun o => hb.alloc hb.size o)
      clear hc hx hp
      go_wp2_with fail
      go_roundw
      case rel => exact ⟨k + 1, _, by omega, by go_num, rfl, HP.out, HB.out _⟩
      case measure => simp [intOf]; omega
    · obtain rfl : k = xs.length := by omega
      rw [List.drop_length] at hp
      simp only [plainL, List.append_nil] at hp
      have HP := Lib.hid (show acc = plain xs by unfold plain; rw [← hp])
      clear hp
      go_wp2_with fail
      go_ret
      exact ⟨by rw [HP.out]; rfl, hb⟩

theorem refRowCheck_many (r : Row) (w : World) (hn : 16 < r.runs.length) :
    Calls Tryz.prog 97 #[.agg r.enc.toArray] w fun e w' => e = .returned (.int .i64 (rowErr r.runs)) ∧ Below w.heap.size w w' := by
  rw [rowErr, if_pos hn]
  have hn' : (16 : Int) < (r.runs.length : Int) := by omega
  simp only [Row.enc]
  go_enter Tryz.func97, Tryz.ntmps97
  go_wp2_with fail
  go_ret
  exact ⟨rfl, (Below.refl _ _).alloc (Nat.le_refl _) _⟩

set_option maxHeartbeats 6400000 in
theorem refRowCheck_few (r : Row) (w : World) (hE : Env w) (hr : r.lies w) (hf : r.fits) (hn : r.runs.length ≤ 16) :
    Calls Tryz.prog 97 #[.agg r.enc.toArray] w fun e w' => e = .returned (.int .i64 (rowErr r.runs)) ∧ Below w.heap.size w w' := by
  obtain ⟨a, cap, xs⟩ := r
  obtain ⟨hfx, hl, hsum⟩ := hf
  simp only [Row.lies] at hr
  simp only [Row.enc] at *
  rw [rowErr, if_neg (by omega)]
  generalize hG : runsFrom none xs = G
  have H0 := Lib.hid (show runsFrom (prevRun xs 0) (xs.drop 0) = G by rw [List.drop_zero]; exact hG)
  have hn2 : decide ((16 : Int) < (xs.length : Int)) = false := by simp; omega
  clear hG
  go_enter Tryz.func97, Tryz.ntmps97
  go_wp2_with fail
  go_loopw [12] (fun i wr => ∃ k : Nat, k ≤ xs.length ∧ i = .int .i64 k ∧ runsFrom (prevRun xs k) (xs.drop k) = G ∧ Below (w.heap.size + 1) (w.alloc (.cells #[.slice a xs.length cap] 88)) wr) (fun i _ => xs.length - (intOf i).toNat)
  case atStart => exact ⟨0, by omega, rfl, H0.out, Below.refl _ _⟩
  case round =>
    obtain ⟨k, hk, rfl, hp, hb0⟩ := hrel
    have hb := box_below hb0
    by_cases hlt : k < xs.length
    · have hRr := hr.later hb
      obtain ⟨b, off, x, rfl, hbl, hx, hc, _⟩ := hRr.at_ hlt
      have hft := hfx x (List.mem_of_getElem? hx)
      have HN := Lib.hid (runsFrom_next xs k x hx (prevRun xs k))
      have HS := Lib.hid (runsFrom_stop xs k x hx (prevRun xs k))
      have HP := Lib.hid hp
      have hcs := run_cases x
      have hfb := box_cell w #[.slice (some ⟨b, off, none⟩) xs.length cap] 88 0 _ rfl
      have HFB := Lib.hid (fun w1 (h : Below (wr.heap.size + 1) (wr.alloc (.cells x.enc.toArray 85)) w1) => hfb w1 ((hb0.alloc (by have := hb0.size; rw [World.size_alloc] at this; exact this) _).trans (h.mono (by have := hb0.size; rw [World.size_alloc] at this; omega))))
      have HB := Lib.hid (fun w1 (h : Below (wr.heap.size + 1) (wr.alloc (.cells x.enc.toArray 85)) w1) => below_alloc_trans hb _ h)
      have HB0 := Lib.hid (fun w1 (h : Below (wr.heap.size + 1) (wr.alloc (.cells x.enc.toArray 85)) w1) => (hb0.alloc (by have := hb0.size; rw [World.size_alloc] at this; exact this) _).trans (h.mono (by have := hb0.size; rw [World.size_alloc] at this; omega)))
      obtain ⟨f1, f2, f3, f4⟩ := hft
      have hsE : ∀ p, runErr x ≠ 0 → runStep p x = runErr x := fun p h => by unfold runStep; rw [if_pos (by simpa using h)]
      have HSE := Lib.hid hsE
      have hg := fun j v h => box_cell wr x.enc.toArray 85 j v h
      obtain ⟨t, c, i, u, ru⟩ := x
      have d0 := hc 0 _ rfl; have d1 := hc 1 _ rfl; have d2 := hc 2 _ rfl; have d3 := hc 3 _ rfl; have d4 := hc 4 _ rfl
      have g0 := hg 0 _ rfl; have g1 := hg 1 _ rfl; have g2 := hg 2 _ rfl; have g3 := hg 3 _ rfl; have g4 := hg 4 _ rfl
      simp only [Nat.add_zero, Run.enc] at d0 d1 d2 d3 d4 g0 g1 g2 g3 g4 HB HB0 HFB f1 f2 f3 f4 hcs
      have HE := Lib.hid (fun w1 (h : Below (wr.heap.size + 1) (wr.alloc (.cells #[.string t, .int .u8 c, .bool i, .bool u, .string ru] 85)) w1) => hE.below (HB.out w1 h) (Nat.le_refl _))
      have hq0 : Below (wr.heap.size + 1) (wr.alloc (.cells #[.string t, .int .u8 c, .bool i, .bool u, .string ru] 85)) (wr.alloc (.cells #[.string t, .int .u8 c, .bool i, .bool u, .string ru] 85)) := Below.refl _ _
      have hsz1 : (wr.alloc (.cells #[.string t, .int .u8 c, .bool i, .bool u, .string ru] 85)).heap.size = wr.heap.size + 1 := World.size_alloc _ _
      have HV := Lib.hid (fun s (hs : s.size ≤ 4000000) w1 (h : Below (wr.heap.size + 1) (wr.alloc (.cells #[.string t, .int .u8 c, .bool i, .bool u, .string ru] 85)) w1) => refValid_calls s w1 hs)
      generalize hW1 : wr.alloc (.cells #[.string t, .int .u8 c, .bool i, .bool u, .string ru] 85) = W1 at *
      have HW1 := Lib.hid hW1
      have HSZ := Lib.hid hsz1
      clear hW1 hsz1 hc hg hsE hfb hp H0 hfx
      rcases hcs with ⟨v1, he⟩ | ⟨v1, v2, he⟩ | ⟨v1, v2, v3, he⟩ | ⟨v1, v2, v3, v4, he⟩ | ⟨v1, v2, v3, v4, he⟩
      · have hst := Lib.hid (HSE.out (prevRun xs k) (by rw [he]; decide))
        have HEE := Lib.hid he
        clear he hRr
        go_wp2_with fail
        rw [HW1.out]
        refine (HV.out t f1 _ hq0).mono ?_
        rintro e w1 ⟨rfl, hb1⟩
        rw [HSZ.out] at hb1
        go_wp2_with fail
        go_ret
        exact ⟨ret_int (by rw [← HP.out, HS.out (by rw [hst.out, HEE.out]; rfl), hst.out, HEE.out]), HB.out _ hb1⟩
      · have hst := Lib.hid (HSE.out (prevRun xs k) (by rw [he]; decide))
        have HEE := Lib.hid he
        clear he hRr
        have v2' : t.toList.isEmpty = true := by simpa using v2
        go_wp2_with fail
        rw [HW1.out]
        refine (HV.out t f1 _ hq0).mono ?_
        rintro e w1 ⟨rfl, hb1⟩
        rw [HSZ.out] at hb1
        go_wp2_with fail
        go_ret
        exact ⟨ret_int (by rw [← HP.out, HS.out (by rw [hst.out, HEE.out]; rfl), hst.out, HEE.out]), HB.out _ hb1⟩
      · have hst := Lib.hid (HSE.out (prevRun xs k) (by rw [he]; decide))
        have HEE := Lib.hid he
        clear he hRr
        have v2' : t.toList.isEmpty = false := by simpa using v2
        have v3' : decide (c ≤ 6) = false := by simpa using v3
        go_wp2_with fail
        rw [HW1.out]
        refine (HV.out t f1 _ hq0).mono ?_
        rintro e w1 ⟨rfl, hb1⟩
        rw [HSZ.out] at hb1
        go_wp2_with fail
        refine (refStyle_calls c i u _).mono ?_
        rintro e w2 ⟨rfl, hb2⟩
        replace hb2 : Below (wr.heap.size + 1) W1 w2 := hb1.trans (hb2.mono (by have := hb1.size; rw [HSZ.out] at this; exact this))
        go_wp2_with fail
        go_ret
        exact ⟨ret_int (by rw [← HP.out, HS.out (by rw [hst.out, HEE.out]; rfl), hst.out, HEE.out]), HB.out _ hb2⟩
      · have hst := Lib.hid (HSE.out (prevRun xs k) (by rw [he]; decide))
        have HEE := Lib.hid he
        clear he hRr
        have v2' : t.toList.isEmpty = false := by simpa using v2
        have v3' : decide (c ≤ 6) = true := by simpa using v3
        go_wp2_with fail
        rw [HW1.out]
        refine (HV.out t f1 _ hq0).mono ?_
        rintro e w1 ⟨rfl, hb1⟩
        rw [HSZ.out] at hb1
        go_wp2_with fail
        refine (refStyle_calls c i u _).mono ?_
        rintro e w2 ⟨rfl, hb2⟩
        replace hb2 : Below (wr.heap.size + 1) W1 w2 := hb1.trans (hb2.mono (by have := hb1.size; rw [HSZ.out] at this; exact this))
        go_wp2_with fail
        refine (HV.out ru f2 _ hb2).mono ?_
        rintro e w3 ⟨rfl, hb3⟩
        replace hb3 : Below (wr.heap.size + 1) W1 w3 := hb2.trans (hb3.mono (by have := hb2.size; rw [HSZ.out] at this; exact this))
        go_wp2_with fail
        go_ret
        exact ⟨ret_int (by rw [← HP.out, HS.out (by rw [hst.out, HEE.out]; rfl), hst.out, HEE.out]), HB.out _ hb3⟩
      · have HEE := Lib.hid he
        clear he
        have v2' : t.toList.isEmpty = false := by simpa using v2
        have v3' : decide (c ≤ 6) = true := by simpa using v3
        rcases Nat.eq_zero_or_pos k with hk0 | hk0
        · have hst := Lib.hid (show runStep (prevRun xs k) ⟨t, c, i, u, ru⟩ = 0 by rw [hk0]; simp [runStep, prevRun, HEE.out])
          have hkd : decide (0 < k) = false := by simp; omega
          clear hRr hk0
          go_wp2_with fail
          rw [HW1.out]
          refine (HV.out t f1 _ hq0).mono ?_
          rintro e w1 ⟨rfl, hb1⟩
          rw [HSZ.out] at hb1
          go_wp2_with fail
          refine (refStyle_calls c i u _).mono ?_
          rintro e w2 ⟨rfl, hb2⟩
          replace hb2 : Below (wr.heap.size + 1) W1 w2 := hb1.trans (hb2.mono (by have := hb1.size; rw [HSZ.out] at this; exact this))
          go_wp2_with fail
          refine (HV.out ru f2 _ hb2).mono ?_
          rintro e w3 ⟨rfl, hb3⟩
          replace hb3 : Below (wr.heap.size + 1) W1 w3 := hb2.trans (hb3.mono (by have := hb2.size; rw [HSZ.out] at this; exact this))
          go_wp2_with fail
          go_quiet (fail)
          go_wp2_with fail
          go_roundw
          case rel => exact ⟨k + 1, by omega, by go_num, by rw [← HN.out hst.out]; exact HP.out, below_drewN (HB0.out _ hb3) _⟩
          case measure => simp [intOf]; omega
        · obtain ⟨b', off', y, hab, _, hy, hcy, _⟩ := hRr.at_ (show k - 1 < xs.length by omega)
          simp only [Option.some.injEq, Addr.mk.injEq, and_true] at hab
          obtain ⟨rfl, rfl⟩ := hab
          have hpv : prevRun xs k = some y := by
            obtain ⟨j, rfl⟩ : ∃ j, k = j + 1 := ⟨k - 1, by omega⟩
            simp only [Nat.add_sub_cancel] at hy
            simp [prevRun, hy]
          have hst : runStep (prevRun xs k) ⟨t, c, i, u, ru⟩ = if alikeB y ⟨t, c, i, u, ru⟩ = true then 8 else 0 := by
            rw [hpv]; simp [runStep, HEE.out]
          have hpc : ∀ j v, y.enc[j]? = some v → ∀ w1, Below (wr.heap.size + 1) W1 w1 → w1.cell? ⟨b, off + (k - 1) * 5 + j, none⟩ = some v := fun j v hv w1 h => by
            rw [h.cell (p := ⟨b, off + (k - 1) * 5 + j, none⟩) (by simp; omega), ← HW1.out, World.cell?_alloc_lt _ _ _ (by simpa using hbl)]
            exact hcy j v hv
          obtain ⟨yt, yc, yi, yu, yr⟩ := y
          have hal := run_styles yc c yi yu i u
          have hA : alikeB ⟨yt, yc, yi, yu, yr⟩ ⟨t, c, i, u, ru⟩ = ((yc == c && yi == i && yu == u) && (yr.toList.isEmpty && ru.toList.isEmpty)) := rfl
          generalize (yc == c && yi == i && yu == u) = S at *
          rw [hA] at hst
          have p0 := hpc 0 _ rfl; have p1 := hpc 1 _ rfl; have p2 := hpc 2 _ rfl; have p3 := hpc 3 _ rfl; have p4 := hpc 4 _ rfl
          simp only [Nat.add_zero] at p0 p1 p2 p3 p4
          have hfb := HFB.out
          have hkd : decide (0 < k) = true := by simp; omega
          have hk1 : 1 ≤ k := hk0
          have hkz : (1 : Int) ≤ (k : Int) := by omega
          have hkl : (k : Int) - 1 < (xs.length : Int) := by omega
          have hwr : IntKind.i64.wrap ((k : Int) - 1) = (k : Int) - 1 := IntWalk.i64_in _ (by omega)
          have hkn : ((k : Int) - 1).toNat = k - 1 := by omega
          clear hpc hpv hRr hcy hy hk0 hA
          rcases (show (S = false) ∨ (S = true ∧ yr.toList.isEmpty = false ∧ ¬ yr.toList = []) ∨ (S = true ∧ yr.toList.isEmpty = true ∧ yr.toList = [] ∧ ru.toList.isEmpty = false ∧ ¬ ru.toList = []) ∨ (S = true ∧ yr.toList.isEmpty = true ∧ yr.toList = [] ∧ ru.toList.isEmpty = true ∧ ru.toList = []) by
            cases S
            · exact .inl rfl
            · by_cases h1 : yr.toList = []
              · by_cases h2 : ru.toList = []
                · exact .inr (.inr (.inr ⟨rfl, by simpa using h1, h1, by simpa using h2, h2⟩))
                · exact .inr (.inr (.inl ⟨rfl, by simpa using h1, h1, by simpa using h2, h2⟩))
              · exact .inr (.inl ⟨rfl, by simpa using h1, h1⟩)) with rfl | ⟨rfl, r1, r2⟩ | ⟨rfl, r1, r2, r3, r4⟩ | ⟨rfl, r1, r2, r3, r4⟩
          · rw [Bool.false_and, if_neg (by decide)] at hst
            have HST := Lib.hid hst
            clear hst
            go_wp2_with fail
            rw [HW1.out]
            refine (HV.out t f1 _ hq0).mono ?_
            rintro e w1 ⟨rfl, hb1⟩
            rw [HSZ.out] at hb1
            go_wp2_with fail
            refine (refStyle_calls c i u _).mono ?_
            rintro e w2 ⟨rfl, hb2⟩
            replace hb2 : Below (wr.heap.size + 1) W1 w2 := hb1.trans (hb2.mono (by have := hb1.size; rw [HSZ.out] at this; exact this))
            go_wp2_with fail
            refine (HV.out ru f2 _ hb2).mono ?_
            rintro e w3 ⟨rfl, hb3⟩
            replace hb3 : Below (wr.heap.size + 1) W1 w3 := hb2.trans (hb3.mono (by have := hb2.size; rw [HSZ.out] at this; exact this))
            clear hb1 hb2
            go_wp2_with fail
            go_quiet (fail)
            go_wp2_with fail
            go_roundw
            case rel => exact ⟨k + 1, by omega, by go_num, by rw [← HN.out HST.out]; exact HP.out, below_drewN (HB0.out _ hb3) _⟩
            case measure => simp [intOf]; omega
          · rw [r1, Bool.true_and, Bool.false_and, if_neg (by decide)] at hst
            have HST := Lib.hid hst
            clear hst
            go_wp2_with fail
            rw [HW1.out]
            refine (HV.out t f1 _ hq0).mono ?_
            rintro e w1 ⟨rfl, hb1⟩
            rw [HSZ.out] at hb1
            go_wp2_with fail
            refine (refStyle_calls c i u _).mono ?_
            rintro e w2 ⟨rfl, hb2⟩
            replace hb2 : Below (wr.heap.size + 1) W1 w2 := hb1.trans (hb2.mono (by have := hb1.size; rw [HSZ.out] at this; exact this))
            go_wp2_with fail
            refine (HV.out ru f2 _ hb2).mono ?_
            rintro e w3 ⟨rfl, hb3⟩
            replace hb3 : Below (wr.heap.size + 1) W1 w3 := hb2.trans (hb3.mono (by have := hb2.size; rw [HSZ.out] at this; exact this))
            clear hb1 hb2
            go_wp2_with fail
            go_quiet (fail)
            go_wp2_with fail
            go_roundw
            case rel => exact ⟨k + 1, by omega, by go_num, by rw [← HN.out HST.out]; exact HP.out, below_drewN (HB0.out _ hb3) _⟩
            case measure => simp [intOf]; omega
          · rw [r1, r3, Bool.true_and, Bool.true_and, if_neg (by decide)] at hst
            have HST := Lib.hid hst
            clear hst
            go_wp2_with fail
            rw [HW1.out]
            refine (HV.out t f1 _ hq0).mono ?_
            rintro e w1 ⟨rfl, hb1⟩
            rw [HSZ.out] at hb1
            go_wp2_with fail
            refine (refStyle_calls c i u _).mono ?_
            rintro e w2 ⟨rfl, hb2⟩
            replace hb2 : Below (wr.heap.size + 1) W1 w2 := hb1.trans (hb2.mono (by have := hb1.size; rw [HSZ.out] at this; exact this))
            go_wp2_with fail
            refine (HV.out ru f2 _ hb2).mono ?_
            rintro e w3 ⟨rfl, hb3⟩
            replace hb3 : Below (wr.heap.size + 1) W1 w3 := hb2.trans (hb3.mono (by have := hb2.size; rw [HSZ.out] at this; exact this))
            clear hb1 hb2
            go_wp2_with fail
            go_quiet (fail)
            go_wp2_with fail
            go_roundw
            case rel => exact ⟨k + 1, by omega, by go_num, by rw [← HN.out HST.out]; exact HP.out, below_drewN (HB0.out _ hb3) _⟩
            case measure => simp [intOf]; omega
          · rw [r1, r3, Bool.true_and, Bool.true_and, if_pos rfl] at hst
            have HST := Lib.hid hst
            clear hst
            go_wp2_with fail
            rw [HW1.out]
            refine (HV.out t f1 _ hq0).mono ?_
            rintro e w1 ⟨rfl, hb1⟩
            rw [HSZ.out] at hb1
            go_wp2_with fail
            refine (refStyle_calls c i u _).mono ?_
            rintro e w2 ⟨rfl, hb2⟩
            replace hb2 : Below (wr.heap.size + 1) W1 w2 := hb1.trans (hb2.mono (by have := hb1.size; rw [HSZ.out] at this; exact this))
            go_wp2_with fail
            refine (HV.out ru f2 _ hb2).mono ?_
            rintro e w3 ⟨rfl, hb3⟩
            replace hb3 : Below (wr.heap.size + 1) W1 w3 := hb2.trans (hb3.mono (by have := hb2.size; rw [HSZ.out] at this; exact this))
            clear hb1 hb2
            go_wp2_with fail
            go_quiet (fail)
            go_wp2_with fail
            go_ret
            exact ⟨ret_int (by rw [← HP.out, HS.out (by rw [HST.out]; rfl), HST.out]), HB.out _ (below_drewN hb3 _)⟩
    · obtain rfl : k = xs.length := by omega
      rw [List.drop_length] at hp
      have HP := Lib.hid hp
      clear hp H0
      go_wp2_with fail
      go_ret
      exact ⟨ret_int (by rw [← HP.out]; cases prevRun xs xs.length <;> rfl), hb⟩

theorem refRowCheck_calls (r : Row) (w : World) (hE : Env w) (hr : r.lies w) (hf : r.fits) :
    Calls Tryz.prog 97 #[.agg r.enc.toArray] w fun e w' => e = .returned (.int .i64 (rowErr r.runs)) ∧ Below w.heap.size w w' := by
  by_cases hn : 16 < r.runs.length
  · exact refRowCheck_many r w hn
  · exact refRowCheck_few r w hE hr hf (by omega)

end Go.Proofs.YtdgakmpopgpijaaGreatDoor

/- The contracts of the reference's neat, spanned, Less and Len of events: the same specifications as the program's. -/
namespace Go.Proofs.YtdgakmpopgpijaaGreatDoor
open Go.RowKit

/-! ### two spaces in a row -/
def twoAt (l : List UInt8) (i : Nat) : Prop := l[i]? = some 32 ∧ l[i + 1]? = some 32
theorem occ_two (l : List UInt8) (i : Nat) : Lib.occAt l [32, 32] i = true ↔ twoAt l i := by
  have h0 : l[i]? = (l.drop i)[0]? := by rw [List.getElem?_drop]; rfl
  have h1 : l[i + 1]? = (l.drop i)[1]? := by rw [List.getElem?_drop]
  unfold twoAt Lib.occAt
  rw [h0, h1]
  match l.drop i with
  | [] => simp
  | [a] => simp
  | a :: b :: r =>
    constructor
    · intro h
      simp [List.isPrefixOf] at h
      obtain ⟨rfl, rfl⟩ := h
      exact ⟨rfl, rfl⟩
    · rintro ⟨h1, h2⟩
      simp at h1 h2
      subst h1
      subst h2
      rfl
theorem contains_yes (l : List UInt8) (i : Nat) (h : twoAt l i) : Lib.contains l [32, 32] = true := by
  unfold Lib.contains
  rw [decide_eq_true_iff]
  rcases Lib.index_spec l [32, 32] with ⟨_, h2⟩ | ⟨j, h2, _⟩
  · have hi : i < l.length := (List.getElem?_eq_some_iff.1 h.1).1
    have := h2 i (by omega)
    rw [(occ_two l i).2 h] at this
    cases this
  · rw [h2]; omega
theorem contains_no (l : List UInt8) (h : ∀ i, ¬ twoAt l i) : Lib.contains l [32, 32] = false := by
  unfold Lib.contains
  rw [decide_eq_false_iff_not]
  rcases Lib.index_spec l [32, 32] with ⟨h1, _⟩ | ⟨j, _, _, h3, _⟩
  · rw [h1]; omega
  · exact absurd ((occ_two l j).1 h3) (h j)
theorem byte_at (s : ByteArray) (k : Nat) (h : k < s.size) : s.data.toList[k]? = some s[k] := by
  rw [List.getElem?_eq_getElem (by simpa using h)]
  rfl
theorem byte_32 (c : UInt8) : c.toNat = 32 ↔ c = 32 := by
  constructor
  · intro h; exact UInt8.toNat_inj.1 h
  · rintro rfl; rfl
/-- No two spaces in a row in the first k bytes. -/
def neatTo (s : ByteArray) (k : Nat) : Prop := ∀ j, j + 1 < k → ¬ twoAt s.data.toList j
theorem neatTo_succ (s : ByteArray) (k : Nat) (hk : k < s.size) (h1 : 1 ≤ k) (h : neatTo s k) (hn : ¬ (s[k].toNat = 32 ∧ s[k - 1].toNat = 32)) : neatTo s (k + 1) := by
  intro j hj
  by_cases hjk : j + 1 = k
  · subst hjk
    rintro ⟨a, b⟩
    rw [byte_at s j (by omega)] at a
    rw [byte_at s (j + 1) hk] at b
    simp only [Option.some.injEq] at a b
    exact hn ⟨(byte_32 _).2 b, by simp only [Nat.add_sub_cancel]; exact (byte_32 _).2 a⟩
  · exact h j (by omega)
theorem neatTo_stop (s : ByteArray) (k : Nat) (hk : k < s.size) (h1 : 1 ≤ k) (h2 : s[k].toNat = 32) (h3 : s[k - 1].toNat = 32) : Lib.contains s.data.toList [32, 32] = true := by
  refine contains_yes _ (k - 1) ⟨?_, ?_⟩
  · rw [byte_at s (k - 1) (by omega), (byte_32 _).1 h3]
  · rw [show k - 1 + 1 = k by omega, byte_at s k hk, (byte_32 _).1 h2]
theorem neatTo_all (s : ByteArray) (h : neatTo s s.size) : Lib.contains s.data.toList [32, 32] = false := by
  refine contains_no _ fun i ht => ?_
  have hi : i + 1 < s.data.toList.length := (List.getElem?_eq_some_iff.1 ht.2).1
  exact h i (by simpa using hi) ht

set_option maxHeartbeats 1600000 in
theorem refNeat_calls (s : ByteArray) (w : World) (hs : s.size ≤ 4000000) :
    Calls Tryz.prog 98 #[.string s] w fun e w' => e = .returned (.bool (!untidy s)) ∧ w = w' := by
  rcases untidy_cases s with ⟨h0, hu⟩ | ⟨h0, ⟨h1, hu⟩ | ⟨h1, h2, hu⟩ | ⟨h1, h2, hu⟩⟩
  · rw [hu]
    have he : s.toList = [] := (empty_str s).1 h0
    have he2 : s.toList.isEmpty = true := by simpa using he
    clear hu
    go_enter Tryz.func98, Tryz.ntmps98
    go_wp2
    go_ret
    exact ⟨rfl, rfl⟩
  · rw [hu]
    have he : ¬ s.toList = [] := fun h => by have := (empty_str s).2 h; omega
    have he2 : s.toList.isEmpty = false := by simpa using he
    have hq : ((s[0].toNat : Int) == 32) = true := by simp; omega
    clear hu
    go_enter Tryz.func98, Tryz.ntmps98
    go_wp2
    go_ret
    exact ⟨rfl, rfl⟩
  · rw [hu]
    have he : ¬ s.toList = [] := fun h => by have := (empty_str s).2 h; omega
    have he2 : s.toList.isEmpty = false := by simpa using he
    have hq : ((s[0].toNat : Int) == 32) = false := by simp; omega
    have hq2 : ((s[s.size - 1].toNat : Int) == 32) = true := by simp; omega
    have hwr : IntKind.i64.wrap ((s.size : Int) - 1) = (s.size : Int) - 1 := IntWalk.i64_in _ (by omega)
    have hkn : ((s.size : Int) - 1).toNat = s.size - 1 := by omega
    have hkl : (s.size : Int) - 1 < (s.size : Int) := by omega
    have hkz : (1 : Int) ≤ (s.size : Int) := by omega
    clear hu
    go_enter Tryz.func98, Tryz.ntmps98
    go_wp2
    go_ret
    exact ⟨rfl, rfl⟩
  · rw [hu]
    have he : ¬ s.toList = [] := fun h => by have := (empty_str s).2 h; omega
    have he2 : s.toList.isEmpty = false := by simpa using he
    have hq : ((s[0].toNat : Int) == 32) = false := by simp; omega
    have hq2 : ((s[s.size - 1].toNat : Int) == 32) = false := by simp; omega
    have hwr : IntKind.i64.wrap ((s.size : Int) - 1) = (s.size : Int) - 1 := IntWalk.i64_in _ (by omega)
    have hkn : ((s.size : Int) - 1).toNat = s.size - 1 := by omega
    have hkl : (s.size : Int) - 1 < (s.size : Int) := by omega
    have hkz : (1 : Int) ≤ (s.size : Int) := by omega
    clear hu
    have HEND := Lib.hid (neatTo_all s)
    have HSTOP := Lib.hid (neatTo_stop s)
    generalize Lib.contains s.data.toList [32, 32] = C at *
    go_enter Tryz.func98, Tryz.ntmps98
    go_wp2
    go_loop [3] (fun i => ∃ k : Nat, 1 ≤ k ∧ k ≤ s.size ∧ i = .int .i64 k ∧ neatTo s k) (fun i => s.size - (intOf i).toNat)
    case atStart => exact ⟨1, by omega, by omega, rfl, fun j hj => by omega⟩
    case round =>
      obtain ⟨k, hk1, hk, rfl, hn⟩ := hrel
      by_cases hlt : k < s.size
      · have HS := Lib.hid (neatTo_succ s k hlt hk1 hn)
        have hq := s[k].toNat_lt
        have hwr : IntKind.i64.wrap ((k : Int) - 1) = (k : Int) - 1 := IntWalk.i64_in _ (by omega)
        have hkn : ((k : Int) - 1).toNat = k - 1 := by omega
        have hkl : (k : Int) - 1 < (s.size : Int) := by omega
        have hkz : (1 : Int) ≤ (k : Int) := by omega
        have hk1s : k - 1 < s.size := by omega
        clear hn
        by_cases ha : s[k].toNat = 32
        · have ha' : ((s[k].toNat : Int) == 32) = true := by simp; omega
          by_cases hb : s[k - 1].toNat = 32
          · have hb' : ((s[k - 1].toNat : Int) == 32) = true := by simp; omega
            have HC := Lib.hid (HSTOP.out k hlt hk1 ha hb)
            go_wp2
            go_ret
            rw [HC.out]; exact ⟨rfl, rfl⟩
          · have hb' : ((s[k - 1].toNat : Int) == 32) = false := by simp; omega
            have HC := Lib.hid (HS.out (fun h => hb h.2))
            go_wp2
            go_round
            case rel => exact ⟨k + 1, by omega, by omega, by go_num, HC.out⟩
            case measure => simp [intOf]; omega
        · have ha' : ((s[k].toNat : Int) == 32) = false := by simp; omega
          have HC := Lib.hid (HS.out (fun h => ha h.1))
          go_wp2
          go_round
          case rel => exact ⟨k + 1, by omega, by omega, by go_num, HC.out⟩
          case measure => simp [intOf]; omega
      · obtain rfl : k = s.size := by omega
        have HC := Lib.hid (HEND.out hn)
        clear hn
        go_wp2
        go_ret
        rw [HC.out]; exact ⟨rfl, rfl⟩

set_option maxHeartbeats 800000 in
theorem refSpans_calls (a b : Int) (w : World) : Calls Tryz.prog 95 #[.agg #[.int .i64 a, .int .i64 b]] w fun e w' => e = .returned (.bool (spansB a b)) ∧ Below w.heap.size w w' := by
  rcases (show a < 0 ∨ (0 ≤ a ∧ b ≤ a) ∨ (0 ≤ a ∧ a < b ∧ 5184000 < b) ∨ (0 ≤ a ∧ a < b ∧ b ≤ 5184000) by omega) with h | ⟨h1, h2⟩ | ⟨h1, h2, h3⟩ | ⟨h1, h2, h3⟩
  · have HS := Lib.hid (show spansB a b = false by simp [spansB]; omega)
    have h' : decide (0 ≤ a) = false := by simp; omega
    go_enter Tryz.func95, Tryz.ntmps95
    go_wp2
    go_ret
    rw [HS.out]; exact ⟨rfl, (Below.refl _ _).alloc (Nat.le_refl _) _⟩
  · have HS := Lib.hid (show spansB a b = false by simp [spansB]; omega)
    have h' : decide (a < b) = false := by simp; omega
    go_enter Tryz.func95, Tryz.ntmps95
    go_wp2
    go_ret
    rw [HS.out]; exact ⟨rfl, (Below.refl _ _).alloc (Nat.le_refl _) _⟩
  · have HS := Lib.hid (show spansB a b = false by simp [spansB]; omega)
    have h' : decide (b ≤ 5184000) = false := by simp; omega
    go_enter Tryz.func95, Tryz.ntmps95
    go_wp2
    go_ret
    rw [HS.out]; exact ⟨rfl, (Below.refl _ _).alloc (Nat.le_refl _) _⟩
  · have HS := Lib.hid (show spansB a b = true by simp [spansB]; omega)
    go_enter Tryz.func95, Tryz.ntmps95
    go_wp2
    go_ret
    rw [HS.out]; exact ⟨rfl, (Below.refl _ _).alloc (Nat.le_refl _) _⟩

/-! ### the order of events -/
theorem compare_neg (a b : Int) : (Lib.compareInt a b = 0 ↔ a = b) ∧ (Lib.compareInt a b < 0 ↔ a < b) := by
  unfold Lib.compareInt
  repeat' split
  all_goals omega
theorem lessB_iff (x y : Ev) : lessB x y = decide (x.inn < y.inn ∨ (x.inn = y.inn ∧ x.id < y.id)) := by
  unfold lessB
  rw [decide_eq_decide]
  have h1 := compare_neg x.inn y.inn
  have h2 := compare_neg x.id y.id
  generalize Lib.compareInt x.inn y.inn = A at *
  generalize Lib.compareInt x.id y.id = B at *
  simp only [orL]
  repeat' split
  all_goals simp_all
  all_goals omega

set_option maxHeartbeats 1600000 in
theorem refLess_calls (x y : Ev) (w : World) : Calls Tryz.prog 58 #[.agg x.enc.toArray, .agg y.enc.toArray] w fun e w' => e = .returned (.bool (lessB x y)) ∧ Below w.heap.size w w' := by
  rw [lessB_iff]
  obtain ⟨id, inn, out, region, kind, speaker, ra, rc, rows⟩ := x
  obtain ⟨id', inn', out', region', kind', speaker', ra', rc', rows'⟩ := y
  simp only [Ev.enc]
  have HB := Lib.hid (fun o o' => (((Below.refl _ _).alloc (Nat.le_refl _) _).alloc (by simp) _ : Below w.heap.size w ((w.alloc o).alloc o')))
  rcases (show inn < inn' ∨ (inn' < inn ∧ (inn == inn') = false) ∨ (inn = inn') by
    by_cases h : inn = inn'
    · exact .inr (.inr h)
    · by_cases h2 : inn < inn'
      · exact .inl h2
      · exact .inr (.inl ⟨by omega, by simpa using h⟩)) with h | ⟨h, h'⟩ | rfl
  · have HD := Lib.hid (show decide (inn < inn' ∨ (inn = inn' ∧ id < id')) = true by simp; omega)
    rw [HD.out]
    clear HD
    go_enter Tryz.func58, Tryz.ntmps58
    go_wp2
    go_ret
    exact ⟨rfl, HB.out _ _⟩
  · have HD := Lib.hid (show decide (inn < inn' ∨ (inn = inn' ∧ id < id')) = false by simp; omega)
    rw [HD.out]
    clear HD
    have hl : decide (inn < inn') = false := by simp; omega
    go_enter Tryz.func58, Tryz.ntmps58
    go_wp2
    go_ret
    exact ⟨rfl, HB.out _ _⟩
  · have HD := Lib.hid (show decide (inn < inn ∨ (inn = inn ∧ id < id')) = decide (id < id') by simp)
    rw [HD.out]
    clear HD
    have hl : decide (inn < inn) = false := by simp
    have hl2 : (inn == inn) = true := by simp
    go_enter Tryz.func58, Tryz.ntmps58
    go_wp2
    go_ret
    exact ⟨rfl, HB.out _ _⟩


end Go.Proofs.YtdgakmpopgpijaaGreatDoor

/- The contracts of the reference's Len and Check of events: the same specifications as the program's. -/
namespace Go.Proofs.YtdgakmpopgpijaaGreatDoor
open Go.RowKit

theorem lenSum_at (rows : List Row) (k : Nat) (r : Row) (h : rows[k]? = some r) (acc : Int) : lenSum (lensOf (rows.drop k)) acc = if rowLen r.runs < 0 then -1 else lenSum (lensOf (rows.drop (k + 1))) (acc + rowLen r.runs) := by
  rw [drop_at rows k r h]
  simp only [lensOf, List.map_cons, lenSum]

set_option maxHeartbeats 3200000 in
theorem refEvLen_calls (x : Ev) (w : World) (hE : Env w) (hr : x.lies w) (hf : x.fits) :
    Calls Tryz.prog 102 #[.agg x.enc.toArray] w fun e w' => e = .returned (.int .i64 (evLen x.rows)) ∧ Below w.heap.size w w' := by
  obtain ⟨id, inn, out, region, kind, speaker, a, cap, xs⟩ := x
  obtain ⟨_, _, _, _, _, _, _, hfx, hl⟩ := hf
  simp only [Ev.lies] at hr hfx hl
  simp only [Ev.enc]
  generalize hG : evLen xs = G
  have H0 := Lib.hid (show lenSum (lensOf (xs.drop 0)) (((0 : Nat) : Int) + ((xs.length - max 0 1 : Nat) : Int)) = G by
    rw [← hG, List.drop_zero]
    unfold evLen
    congr 1
    omega)
  clear hG
  go_enter Tryz.func102, Tryz.ntmps102
  go_wp2_with fail
  go_loopw [3, 10] (fun v i wr => ∃ (k acc : Nat), k ≤ xs.length ∧ i = .int .i64 k ∧ v = .int .i64 acc ∧ acc ≤ 4000001 * k ∧ lenSum (lensOf (xs.drop k)) ((acc : Int) + ((xs.length - max k 1 : Nat) : Int)) = G ∧ Below w.heap.size w wr) (fun _ i _ => xs.length - (intOf i).toNat)
  case atStart => exact ⟨0, 0, by omega, rfl, rfl, by omega, H0.out, (Below.refl _ _).alloc (Nat.le_refl _) _⟩
  case round =>
    obtain ⟨k, acc, hk, rfl, rfl, hacc, hp, hb⟩ := hrel
    by_cases hlt : k < xs.length
    · obtain ⟨b, off, r, rfl, hbl, hx, hc, hok⟩ := (hr.later hb).at_ hlt
      have hfr := hfx r (List.mem_of_getElem? hx)
      have hbd := rowLen_bd r.runs
      have hbd2 := hfr.2.2
      have HL := Lib.hid (fun w1 h1 h2 => refRowLen_calls r w1 h1 h2 hfr)
      rw [lenSum_at xs k r hx] at hp
      obtain ⟨ra, rc, rr⟩ := r
      simp only [Row.enc, Row.lies] at HL hok hp
      simp only at hbd hbd2
      have d0 := hc 0 _ rfl
      simp only [Nat.add_zero, Nat.mul_one] at d0
      have HE := Lib.hid (fun o => hE.below (hb.alloc hb.size o) (Nat.le_refl _))
      have HOK := Lib.hid (fun o => hok.later ((Below.refl wr.heap.size wr).alloc (Nat.le_refl _) o))
      have HB := Lib.hid (fun (o : Obj) (w1 : World) (h1 : Below (wr.heap.size + 1) (wr.alloc o) w1) => below_alloc_trans hb o h1)
      have HP := Lib.hid hp
      generalize rowLen rr = L at *
      generalize sumText rr = S at *
      clear hc hx hr hfx hfr hok hp H0
      obtain ⟨l0, l1⟩ := hbd
      by_cases hneg : L < 0
      · go_wp2_with (go_at_call 100; refine (HL.out _ (HE.out _) (HOK.out _)).mono ?_; rintro e w1 ⟨rfl, hb1⟩; simp only [World.size_alloc] at hb1)
        go_ret
        exact ⟨ret_int (by rw [← HP.out, if_pos hneg]), HB.out _ _ hb1⟩
      · obtain ⟨m, rfl⟩ := Int.eq_ofNat_of_zero_le (show 0 ≤ L by omega)
        have hq := HP.out
        rw [if_neg hneg] at hq
        have hm : m ≤ 4000000 := by omega
        clear HP hneg l0 l1
        have hnn : 0 ≤ (m : Int) := by omega
        rcases Nat.eq_zero_or_pos k with hk0 | hk0
        · have hkd : decide (0 < k) = false := by simp; omega
          have HQ := Lib.hid (show lenSum (lensOf (xs.drop (k + 1))) (((acc + m : Nat) : Int) + ((xs.length - max (k + 1) 1 : Nat) : Int)) = G by rw [← hq]; congr 1; omega)
          clear hq hk0
          go_wp2_with (go_at_call 100; refine (HL.out _ (HE.out _) (HOK.out _)).mono ?_; rintro e w1 ⟨rfl, hb1⟩; simp only [World.size_alloc] at hb1)
          go_roundw
          case rel => exact ⟨k + 1, acc + m, by omega, by go_num, by go_num, by omega, HQ.out, HB.out _ _ hb1⟩
          case measure => simp [intOf]; omega
        · have hkd : decide (0 < k) = true := by simp; omega
          have HQ := Lib.hid (show lenSum (lensOf (xs.drop (k + 1))) (((acc + 1 + m : Nat) : Int) + ((xs.length - max (k + 1) 1 : Nat) : Int)) = G by rw [← hq]; congr 1; omega)
          clear hq
          go_wp2_with (go_at_call 100; refine (HL.out _ (HE.out _) (HOK.out _)).mono ?_; rintro e w1 ⟨rfl, hb1⟩; simp only [World.size_alloc] at hb1)
          go_roundw
          case rel => exact ⟨k + 1, acc + 1 + m, by omega, by go_num, by go_num, by omega, HQ.out, HB.out _ _ hb1⟩
          case measure => simp [intOf]; omega
    · obtain rfl : k = xs.length := by omega
      rw [List.drop_length] at hp
      have HP := Lib.hid (show (acc : Int) = G by rw [← hp]; simp only [lensOf, List.map_nil, lenSum]; omega)
      clear hp H0
      go_wp2_with fail
      go_ret
      exact ⟨ret_int HP.out, hb⟩

theorem evRow_cases (runs : List Run) : ((rowErr runs != 0) = true ∧ evRowErr runs = rowErr runs) ∨ (rowErr runs = 0 ∧ untidy (plain runs) = true ∧ evRowErr runs = 4) ∨ (rowErr runs = 0 ∧ untidy (plain runs) = false ∧ 32 < rowLen runs ∧ evRowErr runs = 11) ∨ (rowErr runs = 0 ∧ untidy (plain runs) = false ∧ rowLen runs ≤ 32 ∧ evRowErr runs = 0) := by
  unfold evRowErr
  by_cases h1 : rowErr runs = 0
  · cases h2 : untidy (plain runs)
    · by_cases h3 : 32 < rowLen runs
      · exact .inr (.inr (.inl ⟨h1, rfl, h3, by rw [if_neg (by simpa using h1), if_neg (by simp), if_pos h3]⟩))
      · exact .inr (.inr (.inr ⟨h1, rfl, by omega, by rw [if_neg (by simpa using h1), if_neg (by simp), if_neg h3]⟩))
    · exact .inr (.inl ⟨h1, rfl, by rw [if_neg (by simpa using h1), if_pos rfl]⟩)
  · have : (rowErr runs != 0) = true := by simpa using h1
    exact .inl ⟨this, if_pos this⟩

set_option maxRecDepth 100000 in
set_option maxHeartbeats 6400000 in
theorem refEvCheck_calls (x : Ev) (a : Option Addr) (cap : Nat) (regs : List Reg) (w : World) (hE : Env w) (hr : x.lies w) (hf : x.fits) (hR : Regs w a regs) (hfr : ∀ r ∈ regs, r.fits) (hlr : regs.length ≤ 4000000) :
    Calls Tryz.prog 57 #[.agg x.enc.toArray, .slice a regs.length cap] w fun e w' => e = .returned (.int .i64 (evErr x regs)) ∧ Below w.heap.size w w' := by
  have hFind := fun w1 h1 => refRFind_calls a cap regs x.region w1 h1 hlr
  have hRf := findR_fits regs x.region hfr
  generalize hG : evErr x regs = G
  unfold evErr at hG
  generalize hF : findR regs x.region = F at *
  obtain ⟨R, found⟩ := F
  simp only at hG hRf
  have hcs := ev_cases x found
  obtain ⟨_, _, _, hs1, hk0, hk1, hs2, hfx, hl⟩ := hf
  have hlens : (lensOf x.rows).length = x.rows.length := by simp [lensOf]
  obtain ⟨id, inn, out, region, kind, speaker, ra, rc, rows⟩ := x
  simp only [Ev.lies] at hr hfx hl hs1 hs2 hk0 hk1 hlens
  simp only [Ev.enc] at hFind ⊢
  generalize evHead ⟨id, inn, out, region, kind, speaker, ra, rc, rows⟩ found = EH at *
  simp only at hG hcs
  have HGo := Lib.hid (fun (n : Int) (h : EH = n) (h0 : (n != 0) = true) => (show n = G by rw [← hG, h, if_pos h0]))
  have HGz := Lib.hid (fun (h : EH = 0) => (show rowsErr R rows = G by rw [← hG, h, if_neg (by decide)]))
  generalize hcs0 : #[Value.int .i64 id, .int .i64 inn, .int .i64 out, .string region, .int .u8 kind, .string speaker, .slice ra rows.length rc] = cs at *
  have f0 := box_cell w cs 60 0 (.int .i64 id) (by rw [← hcs0]; rfl)
  have f1 := box_cell w cs 60 1 (.int .i64 inn) (by rw [← hcs0]; rfl)
  have f2 := box_cell w cs 60 2 (.int .i64 out) (by rw [← hcs0]; rfl)
  have f3 := box_cell w cs 60 3 (.string region) (by rw [← hcs0]; rfl)
  have f4 := box_cell w cs 60 4 (.int .u8 kind) (by rw [← hcs0]; rfl)
  have f5 := box_cell w cs 60 5 (.string speaker) (by rw [← hcs0]; rfl)
  have f6 := box_cell w cs 60 6 (.slice ra rows.length rc) (by rw [← hcs0]; rfl)
  have HB := Lib.hid (fun (w1 : World) (h : Below (w.heap.size + 1) (w.alloc (.cells cs 60)) w1) => box_below h)
  have HE := Lib.hid (fun (w1 : World) (h : Below (w.heap.size + 1) (w.alloc (.cells cs 60)) w1) => hE.below (box_below h) (Nat.le_refl _))
  have HR := Lib.hid (fun (w1 : World) (h : Below (w.heap.size + 1) (w.alloc (.cells cs 60)) w1) => hr.later (box_below h))
  have HRg := Lib.hid (fun (w1 : World) (h : Below (w.heap.size + 1) (w.alloc (.cells cs 60)) w1) => hR.later (box_below h))
  have hb0 : Below (w.heap.size + 1) (w.alloc (.cells cs 60)) (w.alloc (.cells cs 60)) := Below.refl _ _
  have hsz : (w.alloc (.cells cs 60)).heap.size = w.heap.size + 1 := World.size_alloc _ _
  have HFind := Lib.hid hFind
  generalize hW0 : w.alloc (.cells cs 60) = W0 at *
  have HW0 := Lib.hid hW0
  have HSZ := Lib.hid hsz
  have HT0 := Lib.hid (fun (w2 w3 : World) (h : Below (w.heap.size + 1) W0 w2) (h3 : Below w2.heap.size w2 w3) => h.trans (h3.mono (by have := h.size; omega)))
  have HLENS := Lib.hid hlens
  have HRF := Lib.hid hRf
  have HFX := Lib.hid hfx
  have hsb := fun w2 => refSpans_calls inn out w2
  have hnb := fun w2 => refName_calls speaker w2 hs2
  generalize spansB inn out = SP at *
  generalize nameB speaker = NB at *
  have HS := Lib.hid hsb
  have HN := Lib.hid hnb
  clear hW0 hsz hE hr hR hFind hG hfr hF hlens hRf hfx hsb hnb
  rcases hcs with ⟨he, hi⟩ | ⟨he, hi0, hi1, rfl⟩ | ⟨hi0, hi1, rfl, hrest⟩
  · have HHE := Lib.hid he
    clear he
    rcases hi with hi | ⟨hi0, hi⟩
    all_goals
      go_enter Tryz.func57, Tryz.ntmps57
      subst hcs0
      go_wp2_with fail
      rw [HW0.out]
      go_ret
      exact ⟨ret_int (HGo.out _ HHE.out rfl), HB.out _ hb0⟩
  · have HHE := Lib.hid he
    clear he
    go_enter Tryz.func57, Tryz.ntmps57
    subst hcs0
    go_wp2_with fail
    rw [HW0.out]
    refine (HS.out _).mono ?_
    rintro e w2 ⟨rfl, hb2⟩
    have hc2 := HT0.out _ _ hb0 hb2
    clear hb2
    go_wp2_with fail
    go_ret
    exact ⟨ret_int (HGo.out _ HHE.out rfl), HB.out _ hc2⟩
  · have HREST := Lib.hid hrest
    clear hrest
    go_enter Tryz.func57, Tryz.ntmps57
    subst hcs0
    go_wp2_with fail
    rw [HW0.out]
    refine (HS.out _).mono ?_
    rintro e w2 ⟨rfl, hb2⟩
    have hc2 := HT0.out _ _ hb0 hb2
    clear hb2 HW0 HS
    go_wp2_with fail
    refine (HFind.out _ (HRg.out _ hc2)).mono ?_
    rintro e w3 ⟨rfl, hb3⟩
    have hc3' := HT0.out _ _ hc2 hb3
    clear hb3 HFind HRg hc2
    obtain ⟨Rn, Rt, Rh, Rl, Rw, Ra, Rb⟩ := R
    simp only [Reg.enc]
    have hlt3 : w.heap.size + 1 ≤ w3.heap.size := by have := hc3'.size; rw [HSZ.out] at this; exact this
    generalize hrs : #[Value.string Rn, .int .i64 Rt, .int .i64 Rh, .int .i64 Rl, .int .i64 Rw, .int .u8 Ra, .bool Rb] = rs at *
    have g0 := box_cell w3 rs 101 0 (.string Rn) (by rw [← hrs]; rfl)
    have g1 := box_cell w3 rs 101 1 (.int .i64 Rt) (by rw [← hrs]; rfl)
    have g2 := box_cell w3 rs 101 2 (.int .i64 Rh) (by rw [← hrs]; rfl)
    have g3 := box_cell w3 rs 101 3 (.int .i64 Rl) (by rw [← hrs]; rfl)
    have g4 := box_cell w3 rs 101 4 (.int .i64 Rw) (by rw [← hrs]; rfl)
    have g5 := box_cell w3 rs 101 5 (.int .u8 Ra) (by rw [← hrs]; rfl)
    have g6 := box_cell w3 rs 101 6 (.bool Rb) (by rw [← hrs]; rfl)
    have hsz1 : (w3.alloc (.cells rs 101)).heap.size = w3.heap.size + 1 := World.size_alloc _ _
    have hd3a : ∀ o : Obj, Below (w.heap.size + 1) W0 (w3.alloc o) := fun o => hc3'.alloc hlt3 o
    have hd3 : Below (w.heap.size + 1) W0 (w3.alloc (.cells rs 101)) := hc3'.alloc hlt3 _
    have HT1 := Lib.hid (fun (w2 : World) (h : Below (w3.heap.size + 1) (w3.alloc (.cells rs 101)) w2) => hd3.trans (h.mono (by omega)))
    have HT2 := Lib.hid (fun (w2 w5 : World) (h : Below (w3.heap.size + 1) (w3.alloc (.cells rs 101)) w2) (h3 : Below w2.heap.size w2 w5) => h.trans (h3.mono (by have := h.size; omega)))
    have hc3 : Below (w3.heap.size + 1) (w3.alloc (.cells rs 101)) (w3.alloc (.cells rs 101)) := Below.refl _ _
    have HW1s := Lib.hid hsz1
    clear hsz1
    generalize hW1 : w3.alloc (.cells rs 101) = W1 at *
    have HW1 := Lib.hid hW1
    clear hW1 hc3'
    subst hrs
    rcases HREST.out with ⟨he, rfl⟩ | ⟨rfl, ⟨he, hk⟩ | ⟨hkk0, hkk1, ⟨he, hsq, rfl⟩ | ⟨hsq, ⟨he, hn⟩ | ⟨he, hn0, hn1⟩⟩⟩⟩
    · have HHE := Lib.hid he
      clear he HREST
      go_wp2_with fail
      rw [HW1.out]
      go_ret
      exact ⟨ret_int (HGo.out _ HHE.out rfl), HB.out _ hd3⟩
    · have HHE := Lib.hid he
      clear he HREST
      rcases (show kind < 1 ∨ (1 ≤ kind ∧ 4 < kind) by omega) with hk' | ⟨hk', hk''⟩
      all_goals
        clear hk
        go_wp2_with fail
        rw [HW1.out]
        go_ret
        exact ⟨ret_int (HGo.out _ HHE.out rfl), HB.out _ hd3⟩
    · have HHE := Lib.hid he
      clear he HREST
      have hsq2 : speaker.toList.isEmpty = false := by simpa using hsq
      go_wp2_with (go_at_call 91; refine (HN.out _).mono ?_; rintro e w4 ⟨rfl, rfl⟩)
      rw [HW1.out]
      go_ret
      exact ⟨ret_int (HGo.out _ HHE.out rfl), HB.out _ hd3⟩
    · have HHE := Lib.hid he
      clear he HREST
      rcases hn with hn | hn <;> rcases hsq with hsq | ⟨hsq, rfl⟩
      · have hsq2 : speaker.toList.isEmpty = true := by simpa using hsq
        go_wp2_with fail
        rw [HW1.out]
        go_ret
        exact ⟨ret_int (HGo.out _ HHE.out rfl), HB.out _ hd3⟩
      · have hsq2 : speaker.toList.isEmpty = false := by simpa using hsq
        go_wp2_with (go_at_call 91; refine (HN.out _).mono ?_; rintro e w4 ⟨rfl, rfl⟩)
        rw [HW1.out]
        go_ret
        exact ⟨ret_int (HGo.out _ HHE.out rfl), HB.out _ hd3⟩
      · have hsq2 : speaker.toList.isEmpty = true := by simpa using hsq
        have t0 : ((rows.length : Int) == 0) = false := by rw [beq_eq_false_iff_ne]; omega
        have t1 : ¬ rows = [] := by rintro rfl; simp at hn
        go_wp2_with fail
        rw [HW1.out]
        go_ret
        exact ⟨ret_int (HGo.out _ HHE.out rfl), HB.out _ hd3⟩
      · have hsq2 : speaker.toList.isEmpty = false := by simpa using hsq
        have t0 : ((rows.length : Int) == 0) = false := by rw [beq_eq_false_iff_ne]; omega
        have t1 : ¬ rows = [] := by rintro rfl; simp at hn
        go_wp2_with (go_at_call 91; refine (HN.out _).mono ?_; rintro e w4 ⟨rfl, rfl⟩)
        rw [HW1.out]
        go_ret
        exact ⟨ret_int (HGo.out _ HHE.out rfl), HB.out _ hd3⟩
    · have HGG := Lib.hid (HGz.out he)
      clear he HREST HGo HGz hlr hb0
      obtain ⟨j0, hj, hy0, hy1, hy2⟩ := info_parts Tryz.info3
      have JI := Lib.hid hj; have J0 := Lib.hid hy0; have J1 := Lib.hid hy1; have J2 := Lib.hid hy2
      clear hj hy0 hy1 hy2
      have t0 : ((rows.length : Int) == 0) = false := by rw [beq_eq_false_iff_ne]; omega
      have t1 : ¬ rows = [] := by rintro rfl; simp at hn0
      have hn4 : decide ((4 : Int) < (rows.length : Int)) = false := by simp; omega
      rcases hsq with hsq | ⟨hsq, rfl⟩
      · have hsq2 : speaker.toList.isEmpty = true := by simpa using hsq
        go_wp2_with fail
        rw [HW1.out]
        go_loopw [7, 70] (fun v i wr => ∃ k : Nat, k ≤ rows.length ∧ i = .int .i64 k ∧ rowsGo ⟨Rn, Rt, Rh, Rl, Rw, Ra, Rb⟩ rows k = G ∧ wr.ownsRow (w3.heap.size + 1) 3 1 v (lensTo rows k).length ((lensTo rows k).map (Value.int .i64)) ∧ Below (w3.heap.size + 1) W1 wr) (fun _ i _ => rows.length - (intOf i).toNat)
        case atStart => exact ⟨0, by omega, rfl, by rw [← HGG.out]; rfl, World.ownsRow_nil _ _ _ _, hc3⟩
        case round =>
          obtain ⟨k, hk, rfl, hp, hown, hb⟩ := hrel
          have hdd := HT1.out _ hb
          clear hc3 hd3 HGG
          by_cases hlt : k < rows.length
          · obtain ⟨b, off, r, rfl, hbl, hx, hc, hok⟩ := (HR.out _ hdd).at_ hlt
            have hfr := HFX.out r (List.mem_of_getElem? hx)
            have HC := Lib.hid (fun w1 h1 h2 => refRowCheck_calls r w1 h1 h2 hfr)
            have HPn := Lib.hid (fun w1 h2 => refPlain_calls r w1 h2 hfr)
            have HLn := Lib.hid (fun w1 h1 h2 => refRowLen_calls r w1 h1 h2 hfr)
            have HNt := Lib.hid (fun w1 => refNeat_calls (plain r.runs) w1 (by
              show (plainL r.runs).toArray.size ≤ 4000000
              rw [List.size_toArray, plainL_len]; exact hfr.2.2))
            rw [rowsGo_at _ rows k r hx] at hp
            have hrc := evRow_cases r.runs
            have HAT := Lib.hid (lensTo_at rows k r hx)
            obtain ⟨qa, qc, rr⟩ := r
            simp only [Row.enc, Row.lies] at HC HPn HLn HNt hok hp hrc HAT
            have d0 := hc 0 _ rfl
            simp only [Nat.add_zero, Nat.mul_one] at d0
            have hbs : w3.heap.size + 1 ≤ wr.heap.size := by have := hb.size; rw [HW1s.out] at this; exact this
            have HP := Lib.hid hp
            have q0 := box_cell wr #[.slice qa rr.length qc] 88 0 _ rfl
            have hq0 : Below (wr.heap.size + 1) (wr.alloc (.cells #[.slice qa rr.length qc] 88)) (wr.alloc (.cells #[.slice qa rr.length qc] 88)) := Below.refl _ _
            have hqs : (wr.alloc (.cells #[.slice qa rr.length qc] 88)).heap.size = wr.heap.size + 1 := World.size_alloc _ _
            have HQ1 := Lib.hid (fun (w' : World) (h : Below (wr.heap.size + 1) (wr.alloc (.cells #[.slice qa rr.length qc] 88)) w') => ((hb.alloc hbs _).trans (h.mono (by omega)) : Below (w3.heap.size + 1) W1 w'))
            have HOK := Lib.hid (fun (w' : World) (h : Below (wr.heap.size + 1) (wr.alloc (.cells #[.slice qa rr.length qc] 88)) w') => hok.later (box_below h))
            have HOW := Lib.hid (fun (w' : World) (h : Below (wr.heap.size + 1) (wr.alloc (.cells #[.slice qa rr.length qc] 88)) w') => own_below (hown.alloc (.cells #[.slice qa rr.length qc] 88)) h (by rw [hqs]; omega))
            have HLT1 := Lib.hid (fun j hj => (hown.lt j hj).1)
            generalize hWR : wr.alloc (.cells #[.slice qa rr.length qc] 88) = WR at *
            have HWR := Lib.hid hWR
            have HQT := Lib.hid (fun (w5 w6 : World) (h : Below (wr.heap.size + 1) WR w5) (h6 : Below w5.heap.size w5 w6) => h.trans (h6.mono (by have := h.size; omega)))
            have hlk : (lensTo rows k).length ≤ 4000000 := by rw [lensTo_length]; omega
            clear hc hx hfr hok hp hWR hown
            generalize evRowErr rr = EV at *
            generalize rowErr rr = E at *
            generalize plain rr = T at *
            generalize untidy T = U at *
            generalize rowLen rr = L at *
            rcases hrc with ⟨hE1, rfl⟩ | ⟨rfl, rfl, rfl⟩ | ⟨rfl, rfl, hL, rfl⟩ | ⟨rfl, rfl, hL, rfl⟩
            · rw [hE1, if_pos rfl] at HP
              go_wp2_with fail
              rw [HWR.out]
              refine (HC.out _ (HE.out _ (HT1.out _ (HQ1.out _ hq0))) (HOK.out _ hq0)).mono ?_
              rintro e w5 ⟨rfl, hb5⟩
              have hq5 := HQT.out _ _ hq0 hb5
              clear hb5
              go_wp2_with fail
              go_ret
              exact ⟨ret_int HP.out, HB.out _ (HT1.out _ (HQ1.out _ hq5))⟩
            · rw [if_pos (by decide)] at HP
              go_wp2_with fail
              rw [HWR.out]
              refine (HC.out _ (HE.out _ (HT1.out _ (HQ1.out _ hq0))) (HOK.out _ hq0)).mono ?_
              rintro e w5 ⟨rfl, hb5⟩
              have hq5 := HQT.out _ _ hq0 hb5
              clear hb5
              go_wp2_with fail
              refine (HPn.out _ (HOK.out _ hq5)).mono ?_
              rintro e w6 ⟨rfl, hb6⟩
              have hq6 := HQT.out _ _ hq5 hb6
              clear hb6
              go_wp2_with fail
              refine (HNt.out _).mono ?_
              rintro e w7 ⟨rfl, rfl⟩
              go_wp2_with fail
              go_ret
              exact ⟨ret_int HP.out, HB.out _ (HT1.out _ (HQ1.out _ hq6))⟩
            · rw [if_pos (by decide)] at HP
              go_wp2_with fail
              rw [HWR.out]
              refine (HC.out _ (HE.out _ (HT1.out _ (HQ1.out _ hq0))) (HOK.out _ hq0)).mono ?_
              rintro e w5 ⟨rfl, hb5⟩
              have hq5 := HQT.out _ _ hq0 hb5
              clear hb5
              go_wp2_with fail
              refine (HPn.out _ (HOK.out _ hq5)).mono ?_
              rintro e w6 ⟨rfl, hb6⟩
              have hq6 := HQT.out _ _ hq5 hb6
              clear hb6
              go_wp2_with fail
              refine (HNt.out _).mono ?_
              rintro e w7 ⟨rfl, rfl⟩
              go_wp2_with fail
              refine (HLn.out _ (HE.out _ (HT1.out _ (HQ1.out _ hq6))) (HOK.out _ hq6)).mono ?_
              rintro e w8 ⟨rfl, hb8⟩
              have hq8 := HQT.out _ _ hq6 hb8
              clear hb8
              go_wp2_with fail
              go_ret
              exact ⟨ret_int HP.out, HB.out _ (HT1.out _ (HQ1.out _ hq8))⟩
            · rw [if_neg (by decide)] at HP
              have hL2 : decide (32 < L) = false := by simp; omega
              go_wp2_with fail
              rw [HWR.out]
              refine (HC.out _ (HE.out _ (HT1.out _ (HQ1.out _ hq0))) (HOK.out _ hq0)).mono ?_
              rintro e w5 ⟨rfl, hb5⟩
              have hq5 := HQT.out _ _ hq0 hb5
              clear hb5
              go_wp2_with fail
              refine (HPn.out _ (HOK.out _ hq5)).mono ?_
              rintro e w6 ⟨rfl, hb6⟩
              have hq6 := HQT.out _ _ hq5 hb6
              clear hb6
              go_wp2_with fail
              refine (HNt.out _).mono ?_
              rintro e w7 ⟨rfl, rfl⟩
              go_wp2_with fail
              refine (HLn.out _ (HE.out _ (HT1.out _ (HQ1.out _ hq6))) (HOK.out _ hq6)).mono ?_
              rintro e w8 ⟨rfl, hb8⟩
              have hq8 := HQT.out _ _ hq6 hb8
              clear hb8
              go_wp2_with fail
              refine (HLn.out _ (HE.out _ (HT1.out _ (HQ1.out _ hq8))) (HOK.out _ hq8)).mono ?_
              rintro e w9 ⟨rfl, hb9⟩
              have hq9 := HQT.out _ _ hq8 hb9
              have hc9 := HQ1.out _ hq9
              have ho9 := Lib.hid (HOW.out _ hq9)
              have hz9 : w3.heap.size + 1 ≤ w9.heap.size := by have := hc9.size; rw [HW1s.out] at this; exact this
              clear hb9 hq5 hq6 hq8
              go_wp2_with (at_builtin; refine wpList_append_new _ _ rfl (.tmp 86) (.tmp 89) 111 rfl (w3.heap.size + 1) 3 j0 _ 1 8 Tryz.underlying111 JI.out J0.out J1.out J2.out rfl (by decide) _ _ _ rfl ho9.out _ rfl rfl rfl ?h1 ?h63 ?hb ?hbase ?_)
              case h1 => first | rfl | (intro u hu; simp at hu; subst hu; rfl)
              case h63 => unfold maxLen; omega
              case hb => omega
              case hbase => exact hz9
              intro v' w10 hown' hgrow
              have R1 : w10.ownsRow (w3.heap.size + 1) 3 1 v' (lensTo rows (k + 1)).length ((lensTo rows (k + 1)).map (Value.int .i64)) := by
                rw [HAT.out]
                simpa using hown'
              have R2 : Below (w3.heap.size + 1) W1 w10 := (hc9.alloc hz9 _).grown hgrow (by simp; omega) (fun j hj => HLT1.out j hj)
              have HR12 := Lib.hid (And.intro R1 R2)
              clear hown' hgrow ho9 R1 R2
              go_wp2_with fail
              go_roundw
              case rel => exact ⟨k + 1, by omega, by go_num, HP.out, HR12.out⟩
              case measure => simp [intOf]; omega
          · obtain rfl : k = rows.length := by omega
            rw [rowsGo_end] at hp
            rw [lensTo_all] at hown
            obtain ⟨a', c', hv, hI⟩ := Ints.of_owns hown
            subst hv
            rw [HLENS.out]
            have HPl := Lib.hid (refPlace_calls ⟨Rn, Rt, Rh, Rl, Rw, Ra, Rb⟩ a' c' (lensOf rows) wr HRF.out hI (by rw [HLENS.out]; omega))
            simp only [hp, HLENS.out, Reg.enc] at HPl
            clear hp HFX HRF hi0 hi1 hn0 hn1 hown hI
            go_wp2_with fail
            refine HPl.out.mono ?_
            rintro e w7 ⟨v, rfl, hb7⟩
            have hd7 := HT1.out _ (HT2.out _ _ hb hb7)
            clear hb7
            go_wp2_with fail
            go_ret
            exact ⟨ret_int rfl, HB.out _ hd7⟩
      · have hsq2 : speaker.toList.isEmpty = false := by simpa using hsq
        go_wp2_with (go_at_call 91; refine (HN.out _).mono ?_; rintro e w4 ⟨rfl, rfl⟩)
        rw [HW1.out]
        go_loopw [7, 70] (fun v i wr => ∃ k : Nat, k ≤ rows.length ∧ i = .int .i64 k ∧ rowsGo ⟨Rn, Rt, Rh, Rl, Rw, Ra, Rb⟩ rows k = G ∧ wr.ownsRow (w3.heap.size + 1) 3 1 v (lensTo rows k).length ((lensTo rows k).map (Value.int .i64)) ∧ Below (w3.heap.size + 1) W1 wr) (fun _ i _ => rows.length - (intOf i).toNat)
        case atStart => exact ⟨0, by omega, rfl, by rw [← HGG.out]; rfl, World.ownsRow_nil _ _ _ _, hc3⟩
        case round =>
          obtain ⟨k, hk, rfl, hp, hown, hb⟩ := hrel
          have hdd := HT1.out _ hb
          clear hc3 hd3 HGG
          by_cases hlt : k < rows.length
          · obtain ⟨b, off, r, rfl, hbl, hx, hc, hok⟩ := (HR.out _ hdd).at_ hlt
            have hfr := HFX.out r (List.mem_of_getElem? hx)
            have HC := Lib.hid (fun w1 h1 h2 => refRowCheck_calls r w1 h1 h2 hfr)
            have HPn := Lib.hid (fun w1 h2 => refPlain_calls r w1 h2 hfr)
            have HLn := Lib.hid (fun w1 h1 h2 => refRowLen_calls r w1 h1 h2 hfr)
            have HNt := Lib.hid (fun w1 => refNeat_calls (plain r.runs) w1 (by
              show (plainL r.runs).toArray.size ≤ 4000000
              rw [List.size_toArray, plainL_len]; exact hfr.2.2))
            rw [rowsGo_at _ rows k r hx] at hp
            have hrc := evRow_cases r.runs
            have HAT := Lib.hid (lensTo_at rows k r hx)
            obtain ⟨qa, qc, rr⟩ := r
            simp only [Row.enc, Row.lies] at HC HPn HLn HNt hok hp hrc HAT
            have d0 := hc 0 _ rfl
            simp only [Nat.add_zero, Nat.mul_one] at d0
            have hbs : w3.heap.size + 1 ≤ wr.heap.size := by have := hb.size; rw [HW1s.out] at this; exact this
            have HP := Lib.hid hp
            have q0 := box_cell wr #[.slice qa rr.length qc] 88 0 _ rfl
            have hq0 : Below (wr.heap.size + 1) (wr.alloc (.cells #[.slice qa rr.length qc] 88)) (wr.alloc (.cells #[.slice qa rr.length qc] 88)) := Below.refl _ _
            have hqs : (wr.alloc (.cells #[.slice qa rr.length qc] 88)).heap.size = wr.heap.size + 1 := World.size_alloc _ _
            have HQ1 := Lib.hid (fun (w' : World) (h : Below (wr.heap.size + 1) (wr.alloc (.cells #[.slice qa rr.length qc] 88)) w') => ((hb.alloc hbs _).trans (h.mono (by omega)) : Below (w3.heap.size + 1) W1 w'))
            have HOK := Lib.hid (fun (w' : World) (h : Below (wr.heap.size + 1) (wr.alloc (.cells #[.slice qa rr.length qc] 88)) w') => hok.later (box_below h))
            have HOW := Lib.hid (fun (w' : World) (h : Below (wr.heap.size + 1) (wr.alloc (.cells #[.slice qa rr.length qc] 88)) w') => own_below (hown.alloc (.cells #[.slice qa rr.length qc] 88)) h (by rw [hqs]; omega))
            have HLT1 := Lib.hid (fun j hj => (hown.lt j hj).1)
            generalize hWR : wr.alloc (.cells #[.slice qa rr.length qc] 88) = WR at *
            have HWR := Lib.hid hWR
            have HQT := Lib.hid (fun (w5 w6 : World) (h : Below (wr.heap.size + 1) WR w5) (h6 : Below w5.heap.size w5 w6) => h.trans (h6.mono (by have := h.size; omega)))
            have hlk : (lensTo rows k).length ≤ 4000000 := by rw [lensTo_length]; omega
            clear hc hx hfr hok hp hWR hown
            generalize evRowErr rr = EV at *
            generalize rowErr rr = E at *
            generalize plain rr = T at *
            generalize untidy T = U at *
            generalize rowLen rr = L at *
            rcases hrc with ⟨hE1, rfl⟩ | ⟨rfl, rfl, rfl⟩ | ⟨rfl, rfl, hL, rfl⟩ | ⟨rfl, rfl, hL, rfl⟩
            · rw [hE1, if_pos rfl] at HP
              go_wp2_with fail
              rw [HWR.out]
              refine (HC.out _ (HE.out _ (HT1.out _ (HQ1.out _ hq0))) (HOK.out _ hq0)).mono ?_
              rintro e w5 ⟨rfl, hb5⟩
              have hq5 := HQT.out _ _ hq0 hb5
              clear hb5
              go_wp2_with fail
              go_ret
              exact ⟨ret_int HP.out, HB.out _ (HT1.out _ (HQ1.out _ hq5))⟩
            · rw [if_pos (by decide)] at HP
              go_wp2_with fail
              rw [HWR.out]
              refine (HC.out _ (HE.out _ (HT1.out _ (HQ1.out _ hq0))) (HOK.out _ hq0)).mono ?_
              rintro e w5 ⟨rfl, hb5⟩
              have hq5 := HQT.out _ _ hq0 hb5
              clear hb5
              go_wp2_with fail
              refine (HPn.out _ (HOK.out _ hq5)).mono ?_
              rintro e w6 ⟨rfl, hb6⟩
              have hq6 := HQT.out _ _ hq5 hb6
              clear hb6
              go_wp2_with fail
              refine (HNt.out _).mono ?_
              rintro e w7 ⟨rfl, rfl⟩
              go_wp2_with fail
              go_ret
              exact ⟨ret_int HP.out, HB.out _ (HT1.out _ (HQ1.out _ hq6))⟩
            · rw [if_pos (by decide)] at HP
              go_wp2_with fail
              rw [HWR.out]
              refine (HC.out _ (HE.out _ (HT1.out _ (HQ1.out _ hq0))) (HOK.out _ hq0)).mono ?_
              rintro e w5 ⟨rfl, hb5⟩
              have hq5 := HQT.out _ _ hq0 hb5
              clear hb5
              go_wp2_with fail
              refine (HPn.out _ (HOK.out _ hq5)).mono ?_
              rintro e w6 ⟨rfl, hb6⟩
              have hq6 := HQT.out _ _ hq5 hb6
              clear hb6
              go_wp2_with fail
              refine (HNt.out _).mono ?_
              rintro e w7 ⟨rfl, rfl⟩
              go_wp2_with fail
              refine (HLn.out _ (HE.out _ (HT1.out _ (HQ1.out _ hq6))) (HOK.out _ hq6)).mono ?_
              rintro e w8 ⟨rfl, hb8⟩
              have hq8 := HQT.out _ _ hq6 hb8
              clear hb8
              go_wp2_with fail
              go_ret
              exact ⟨ret_int HP.out, HB.out _ (HT1.out _ (HQ1.out _ hq8))⟩
            · rw [if_neg (by decide)] at HP
              have hL2 : decide (32 < L) = false := by simp; omega
              go_wp2_with fail
              rw [HWR.out]
              refine (HC.out _ (HE.out _ (HT1.out _ (HQ1.out _ hq0))) (HOK.out _ hq0)).mono ?_
              rintro e w5 ⟨rfl, hb5⟩
              have hq5 := HQT.out _ _ hq0 hb5
              clear hb5
              go_wp2_with fail
              refine (HPn.out _ (HOK.out _ hq5)).mono ?_
              rintro e w6 ⟨rfl, hb6⟩
              have hq6 := HQT.out _ _ hq5 hb6
              clear hb6
              go_wp2_with fail
              refine (HNt.out _).mono ?_
              rintro e w7 ⟨rfl, rfl⟩
              go_wp2_with fail
              refine (HLn.out _ (HE.out _ (HT1.out _ (HQ1.out _ hq6))) (HOK.out _ hq6)).mono ?_
              rintro e w8 ⟨rfl, hb8⟩
              have hq8 := HQT.out _ _ hq6 hb8
              clear hb8
              go_wp2_with fail
              refine (HLn.out _ (HE.out _ (HT1.out _ (HQ1.out _ hq8))) (HOK.out _ hq8)).mono ?_
              rintro e w9 ⟨rfl, hb9⟩
              have hq9 := HQT.out _ _ hq8 hb9
              have hc9 := HQ1.out _ hq9
              have ho9 := Lib.hid (HOW.out _ hq9)
              have hz9 : w3.heap.size + 1 ≤ w9.heap.size := by have := hc9.size; rw [HW1s.out] at this; exact this
              clear hb9 hq5 hq6 hq8
              go_wp2_with (at_builtin; refine wpList_append_new _ _ rfl (.tmp 86) (.tmp 89) 111 rfl (w3.heap.size + 1) 3 j0 _ 1 8 Tryz.underlying111 JI.out J0.out J1.out J2.out rfl (by decide) _ _ _ rfl ho9.out _ rfl rfl rfl ?h1 ?h63 ?hb ?hbase ?_)
              case h1 => first | rfl | (intro u hu; simp at hu; subst hu; rfl)
              case h63 => unfold maxLen; omega
              case hb => omega
              case hbase => exact hz9
              intro v' w10 hown' hgrow
              have R1 : w10.ownsRow (w3.heap.size + 1) 3 1 v' (lensTo rows (k + 1)).length ((lensTo rows (k + 1)).map (Value.int .i64)) := by
                rw [HAT.out]
                simpa using hown'
              have R2 : Below (w3.heap.size + 1) W1 w10 := (hc9.alloc hz9 _).grown hgrow (by simp; omega) (fun j hj => HLT1.out j hj)
              have HR12 := Lib.hid (And.intro R1 R2)
              clear hown' hgrow ho9 R1 R2
              go_wp2_with fail
              go_roundw
              case rel => exact ⟨k + 1, by omega, by go_num, HP.out, HR12.out⟩
              case measure => simp [intOf]; omega
          · obtain rfl : k = rows.length := by omega
            rw [rowsGo_end] at hp
            rw [lensTo_all] at hown
            obtain ⟨a', c', hv, hI⟩ := Ints.of_owns hown
            subst hv
            rw [HLENS.out]
            have HPl := Lib.hid (refPlace_calls ⟨Rn, Rt, Rh, Rl, Rw, Ra, Rb⟩ a' c' (lensOf rows) wr HRF.out hI (by rw [HLENS.out]; omega))
            simp only [hp, HLENS.out, Reg.enc] at HPl
            clear hp HFX HRF hi0 hi1 hn0 hn1 hown hI
            go_wp2_with fail
            refine HPl.out.mono ?_
            rintro e w7 ⟨v, rfl, hb7⟩
            have hd7 := HT1.out _ (HT2.out _ _ hb hb7)
            clear hb7
            go_wp2_with fail
            go_ret
            exact ⟨ret_int rfl, HB.out _ hd7⟩


end Go.Proofs.YtdgakmpopgpijaaGreatDoor
