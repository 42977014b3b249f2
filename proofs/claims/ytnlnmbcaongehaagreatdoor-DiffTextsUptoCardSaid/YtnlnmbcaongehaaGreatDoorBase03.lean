/- The contracts of event.lens and event.Len: the lengths of the rows of any event. The contract of event.Len: the number of characters of any event. The contracts of cmp.Or and event.Less: whether an event is ahead of another one. The contract of event.Check: the first error of an event. Maps that a call makes, from int64 to int and from int64 to bool: what they hold, key by key. Documents in memory, and the contract of document.anchored: the first error of the numbers of a comment. -/
import Derived.StillTailTactics
import Derived.Maps.OwnSet
import Derived.Test.YtnlnmbcaongehaaGreatDoorBase02
set_option linter.unusedVariables false
set_option linter.unusedSimpArgs false
namespace Go.Proofs.YtnlnmbcaongehaaGreatDoor
open Go.RowKit
/-- An event, with the place of its rows. -/
structure Ev where
  id : Int
  inn : Int
  out : Int
  region : ByteArray
  kind : Int
  speaker : ByteArray
  at_ : Option Addr
  cap : Nat
  rows : List Row
def Ev.enc (x : Ev) : List Value := [.int .i64 x.id, .int .i64 x.inn, .int .i64 x.out, .string x.region, .int .u8 x.kind, .string x.speaker, .slice x.at_ x.rows.length x.cap]
def RowsAt (w : World) (a : Option Addr) (xs : List Row) : Prop := SliceOf 1 Row.enc Row.lies w a xs
theorem RowsAt.later {w w' : World} {a : Option Addr} {xs : List Row} (h : RowsAt w a xs) (hb : Below w.heap.size w w') : RowsAt w' a xs := SliceOf.keeps Row.keeps w w' a xs hb h
def Ev.lies (w : World) (x : Ev) : Prop := RowsAt w x.at_ x.rows
theorem Ev.keeps : Keeps Ev.lies := fun w w' r hb h => RowsAt.later h hb
def Ev.fits (x : Ev) : Prop := i64 x.id ∧ i64 x.inn ∧ i64 x.out ∧ x.region.size ≤ 4000000 ∧ 0 ≤ x.kind ∧ x.kind ≤ 255 ∧ x.speaker.size ≤ 4000000 ∧ (∀ r ∈ x.rows, r.fits) ∧ x.rows.length ≤ 4000000
/-- The lengths of the rows. -/
def lensOf (rows : List Row) : List Int := rows.map fun r => rowLen r.runs
def lensTo (rows : List Row) : Nat → List Int
  | 0 => []
  | k + 1 => lensTo rows k ++ [rowLen ((rows[k]?.map Row.runs).getD [])]
theorem lensTo_length (rows : List Row) : ∀ k, (lensTo rows k).length = k
  | 0 => rfl
  | k + 1 => by simp [lensTo, lensTo_length rows k]
theorem lensTo_take (rows : List Row) : ∀ k, k ≤ rows.length → lensTo rows k = (rows.take k).map fun r => rowLen r.runs
  | 0, _ => by simp [lensTo]
  | k + 1, h => by
    rw [lensTo, lensTo_take rows k (by omega), List.take_succ_eq_append_getElem (by omega), List.map_append]
    simp [List.getElem?_eq_getElem (show k < rows.length by omega)]
theorem lensTo_all (rows : List Row) : lensTo rows rows.length = lensOf rows := by
  rw [lensTo_take rows _ (Nat.le_refl _), List.take_length]; rfl
theorem lensTo_at (rows : List Row) (k : Nat) (r : Row) (h : rows[k]? = some r) : lensTo rows (k + 1) = lensTo rows k ++ [rowLen r.runs] := by
  rw [lensTo, h]; rfl
theorem Tryz.info3 : (Tryz.prog.info? 3).map (fun i => (i.zero, i.size, i.bytes)) = some (some (.int .i64 0), 1, 8) := by kernel_rfl
/-- What is owned stays owned in a later world. -/
theorem own_below {w w' : World} {B base e size n : Nat} {v : Value} {xs : List Value} (h : w.ownsRow base e size v n xs) (hb : Below B w w') (hB : w.heap.size ≤ B) : w'.ownsRow base e size v n xs := by
  refine ⟨h.1, ?_⟩
  rcases h.2 with hn | ⟨g, cap, cur, e1, hbase, hgg, rest⟩
  · exact .inl hn
  · refine .inr ⟨g, cap, cur, e1, hbase, ?_, rest⟩
    rw [hb.block g (Nat.lt_of_lt_of_le (Array.getElem?_eq_some_iff.1 hgg).1 hB)]
    exact hgg
theorem Ints.of_owns {w : World} {base e : Nat} {v : Value} {zs : List Int} (h : w.ownsRow base e 1 v zs.length (zs.map (Value.int .i64))) : ∃ a cap, v = .slice a zs.length cap ∧ Ints w a zs := by
  have h' := h
  rcases h.2 with ⟨rfl, h0⟩ | ⟨g, cap, cur, rfl, hb, hg, _⟩
  · exact ⟨none, 0, by rw [h0], .inl (by cases zs <;> simp_all)⟩
  · refine ⟨_, cap, rfl, .inr ⟨g, 0, rfl, (Array.getElem?_eq_some_iff.1 hg).1, fun i z hz => ⟨fun j v hv => ?_, trivial⟩⟩⟩
    have hi : i < zs.length := (List.getElem?_eq_some_iff.1 hz).1
    match j, hv with
    | 0, hv =>
      simp at hv
      subst hv
      rw [show 0 + i * 1 + 0 = i by omega, h'.cellAt i (by omega)]
      simp [hz]
def LensRel (rows : List Row) (w : World) (k : Nat) (v : Value) (wr : World) : Prop :=
  wr.ownsRow w.heap.size 3 1 v (lensTo rows k).length ((lensTo rows k).map (Value.int .i64)) ∧ Below w.heap.size w wr
def LensPost (rows : List Row) (w : World) (e : Ending) (w' : World) : Prop := ∃ a c, e = .returned (.slice a rows.length c) ∧ Ints w' a (lensOf rows) ∧ Below w.heap.size w w'
theorem lens_end {xs : List Row} {w wr : World} {v : Value} (hown : wr.ownsRow w.heap.size 3 1 v (lensTo xs xs.length).length ((lensTo xs xs.length).map (Value.int .i64))) (hb : Below w.heap.size w wr) : LensPost xs w (.returned v) wr := by
  rw [lensTo_all] at hown
  obtain ⟨a', c', rfl, hI⟩ := Ints.of_owns hown
  exact ⟨a', c', by simp [lensOf], hI, hb⟩
set_option maxHeartbeats 3200000 in
theorem lens_calls (x : Ev) (w : World) (hE : Env w) (hr : x.lies w) (hf : x.fits) :
    Calls Tryz.prog 158 #[.agg x.enc.toArray] w (LensPost x.rows w) := by
  obtain ⟨id, inn, out, region, kind, speaker, a, cap, xs⟩ := x
  obtain ⟨_, _, _, _, _, _, _, hfx, hl⟩ := hf
  simp only [Ev.lies] at hr hfx hl
  simp only [Ev.enc]
  obtain ⟨j0, hj, hy0, hy1, hy2⟩ := info_parts Tryz.info3
  have JI := Lib.hid hj; have J0 := Lib.hid hy0; have J1 := Lib.hid hy1; have J2 := Lib.hid hy2
  clear hj hy0 hy1 hy2
  go_enter Tryz.func158, Tryz.ntmps158
  go_wp2_with fail
  go_loopw [3, 9] (fun v i wr => ∃ k : Nat, k ≤ xs.length ∧ i = .int .i64 k ∧ LensRel xs w k v wr) (fun _ i _ => xs.length - (intOf i).toNat)
  case atStart => exact ⟨0, by omega, rfl, World.ownsRow_nil _ _ _ _, (Below.refl _ _).alloc (Nat.le_refl _) _⟩
  case round =>
    obtain ⟨k, hk, rfl, hown, hb⟩ := hrel
    by_cases hlt : k < xs.length
    · obtain ⟨b, off, r, rfl, hbl, hx, hc, hok⟩ := (hr.later hb).at_ hlt
      have hfr := hfx r (List.mem_of_getElem? hx)
      have HL := Lib.hid (fun w1 h1 h2 => rowLen_calls r w1 h1 h2 hfr)
      have hat := lensTo_at xs k r hx
      obtain ⟨ra, rc, rr⟩ := r
      simp only [Row.enc, Row.lies] at HL hok hat
      have d0 := hc 0 _ rfl
      simp only [Nat.add_zero, Nat.mul_one] at d0
      have hbs := hb.size
      have HE := Lib.hid (fun o => hE.below (hb.alloc hb.size o) (Nat.le_refl _))
      have HOK := Lib.hid (fun o => hok.later ((Below.refl wr.heap.size wr).alloc (Nat.le_refl _) o))
      have HO := Lib.hid (fun (o : Obj) (w1 : World) (h1 : Below (wr.heap.size + 1) (wr.alloc o) w1) => own_below (hown.alloc o) h1 (by simp))
      have HB := Lib.hid (fun (o : Obj) (w1 : World) (h1 : Below (wr.heap.size + 1) (wr.alloc o) w1) => below_alloc_trans hb o h1)
      have HAT := Lib.hid hat
      have hlk : (lensTo xs k).length ≤ 4000000 := by rw [lensTo_length]; omega
      generalize rowLen rr = L at *
      clear hc hx hr hown hfx hfr hat hok
      go_wp2_with (first
        | (go_at_call 215; refine (HL.out _ (HE.out _) (HOK.out _)).mono ?_; rintro e w1 ⟨rfl, hb1⟩; simp only [World.size_alloc] at hb1; have ho1 := Lib.hid (HO.out _ _ hb1); have hbw := HB.out _ _ hb1; have hbz := hbw.size)
        | (at_builtin; refine wpList_append_new _ _ rfl (.tmp 13) (.tmp 16) 229 rfl w.heap.size 3 j0 _ 1 8 Tryz.underlying229 JI.out J0.out J1.out J2.out rfl (by decide) _ _ _ rfl ho1.out _ rfl rfl rfl ?h1 ?h63 ?hb ?hbase ?_))
      case h1 => first | rfl | (intro u hu; simp at hu; subst hu; rfl)
      case h63 => unfold maxLen; omega
      case hb => omega
      case hbase => exact hbz
      intro v' w2 hown' hgrow
      have R : LensRel xs w (k + 1) v' w2 := by
        refine ⟨?_, (hbw.alloc hbw.size _).grown hgrow (by simp; omega) (fun j hj => (ho1.out.lt j hj).1)⟩
        rw [HAT.out]
        simpa using hown'
      clear hown' hgrow ho1
      go_wp2_with fail
      go_roundw
      case rel => exact ⟨k + 1, by omega, by go_num, R⟩
      case measure => simp [intOf]; omega
    · obtain rfl : k = xs.length := by omega
      have HEND := Lib.hid (lens_end hown hb)
      clear hown
      go_wp2_with fail
      go_ret
      exact HEND.out
end Go.Proofs.YtnlnmbcaongehaaGreatDoor
namespace Go.Proofs.YtnlnmbcaongehaaGreatDoor
open Go.RowKit
theorem lenFrom_bd : ∀ (l : List Run) (acc : Int), 0 ≤ acc → -1 ≤ lenFrom l acc ∧ lenFrom l acc ≤ acc + sumText l
  | [], acc, h => by simp only [lenFrom, sumText]; omega
  | x :: l, acc, h => by
    have h1 := lenB_le x.text
    simp only [lenFrom, sumText]
    split
    · omega
    · have := lenFrom_bd l (acc + lenB x.text) (by omega)
      omega
theorem rowLen_bd (l : List Run) : -1 ≤ rowLen l ∧ rowLen l ≤ sumText l := by
  have := lenFrom_bd l 0 (by omega)
  unfold rowLen
  omega
def lenSum : List Int → Int → Int
  | [], acc => acc
  | n :: l, acc => if n < 0 then -1 else lenSum l (acc + n)
/-- The number of characters of an event, with line feeds. -/
def evLen (rows : List Row) : Int := lenSum (lensOf rows) (max ((rows.length : Int) - 1) 0)
theorem lensOf_bd (rows : List Row) (hf : ∀ r ∈ rows, r.fits) : ∀ z ∈ lensOf rows, z ≤ 4000000 := by
  intro z hz
  simp only [lensOf, List.mem_map] at hz
  obtain ⟨r, hr, rfl⟩ := hz
  have h1 := rowLen_bd r.runs
  have h2 := (hf r hr).2.2
  omega
set_option maxHeartbeats 3200000 in
theorem evLen_calls (x : Ev) (w : World) (hE : Env w) (hr : x.lies w) (hf : x.fits) :
    Calls Tryz.prog 218 #[.agg x.enc.toArray] w fun e w' => e = .returned (.int .i64 (evLen x.rows)) ∧ Below w.heap.size w w' := by
  have hLn := fun w1 h1 h2 => lens_calls x w1 h1 h2 hf
  obtain ⟨id, inn, out, region, kind, speaker, a, cap, xs⟩ := x
  obtain ⟨_, _, _, _, _, _, _, hfx, hl⟩ := hf
  have hbd := lensOf_bd xs hfx
  simp only [Ev.lies] at hr hfx hl hLn
  simp only [Ev.enc] at hLn ⊢
  have hlen : (lensOf xs).length = xs.length := by simp [lensOf]
  generalize hG : evLen xs = G
  unfold evLen at hG
  generalize hz : lensOf xs = zs at *
  have HZ := Lib.hid hz
  have HG := Lib.hid hG
  have HLn := Lib.hid (hLn (w.alloc (.cells #[.int .i64 id, .int .i64 inn, .int .i64 out, .string region, .int .u8 kind, .string speaker, .slice a xs.length cap] 50)) (hE.below ((Below.refl _ _).alloc (Nat.le_refl _) _) (Nat.le_refl _)) (hr.later ((Below.refl _ _).alloc (Nat.le_refl _) _)))
  have HLEN := Lib.hid hlen
  have HBD := Lib.hid hbd
  clear hG hLn hlen hr hE hfx hz hbd
  obtain ⟨m, hm, hm2, hmle⟩ : ∃ m : Nat, max ((xs.length : Int) - 1) 0 = m ∧ ((xs.length : Int) - 1 < 0 ∧ m = 0 ∨ (0 : Int) ≤ (xs.length : Int) - 1 ∧ (m : Int) = (xs.length : Int) - 1) ∧ m ≤ 4000000 := by
    by_cases h : xs.length = 0
    · exact ⟨0, by omega, .inl ⟨by omega, rfl⟩, by omega⟩
    · exact ⟨xs.length - 1, by omega, .inr ⟨by omega, by omega⟩, by omega⟩
  rw [hm] at HG
  have HM := Lib.hid hm2
  clear hm hm2
  rcases HM.out with ⟨h0, hm0⟩ | ⟨h0, hm0⟩
  all_goals
    have HM0 := Lib.hid hm0
    clear hm0
    go_enter Tryz.func218, Tryz.ntmps218
    go_wp2_with fail
    refine HLn.out.mono ?_
    rintro e w1 ⟨a', c', rfl, hI, hb1⟩
    rw [World.size_alloc] at hb1
    replace hb1 := Lib.hid (box_below hb1)
    rw [HZ.out] at hI
    clear HLn
    go_wp2_with fail
    go_loop [3, 14] (fun s i => ∃ (k acc : Nat), k ≤ zs.length ∧ i = .int .i64 k ∧ s = .int .i64 acc ∧ lenSum (zs.drop k) acc = G ∧ acc ≤ 4000000 + 4000000 * k) (fun _ i => zs.length - (intOf i).toNat)
    case atStart => exact ⟨0, m, by omega, rfl, by have := HM0.out; go_num, by rw [List.drop_zero]; exact HG.out, by omega⟩
    case round =>
      obtain ⟨k, acc, hk, rfl, rfl, hp, hac⟩ := hrel
      have hlx : zs.length ≤ xs.length := by have := HLEN.out; omega
      have hlx2 : xs.length ≤ zs.length := by have := HLEN.out; omega
      by_cases hlt : k < zs.length
      · obtain ⟨b, off, z, rfl, hbl, hzz, hc, _⟩ := hI.at_ hlt
        have d0 := hc 0 _ rfl
        simp only [Nat.add_zero, Nat.mul_one] at d0
        have hzb := HBD.out z (List.mem_of_getElem? hzz)
        rw [drop_at zs k z hzz] at hp
        simp only [lenSum] at hp
        have HP := Lib.hid hp
        clear hp hc hzz hI HG
        by_cases hneg : z < 0
        · go_wp2_with fail
          all_goals
            go_ret
            exact ⟨ret_int (by rw [← HP.out, if_pos hneg]), hb1.out⟩
        · have hnn : 0 ≤ z := by omega
          obtain ⟨n, rfl⟩ := Int.eq_ofNat_of_zero_le hnn
          rw [if_neg (by omega)] at HP
          have hac2 : acc ≤ 4000000 + 4000000 * 4000000 := by omega
          clear hneg
          go_wp2_with fail
          all_goals
            go_round
            case rel => exact ⟨k + 1, acc + n, by omega, by go_num, by go_num, by have := HP.out; simpa using this, by omega⟩
            case measure => simp [intOf]; omega
      · obtain rfl : k = zs.length := by omega
        rw [List.drop_length] at hp
        have HP := Lib.hid hp
        clear hp HG
        go_wp2_with fail
        go_ret
        exact ⟨ret_int (by rw [← HP.out]; rfl), hb1.out⟩
end Go.Proofs.YtnlnmbcaongehaaGreatDoor
namespace Go.Proofs.YtnlnmbcaongehaaGreatDoor
open Go.RowKit
def orL : List Int → Int
  | [] => 0
  | z :: l => if (z != 0) = true then z else orL l
theorem or_calls (a : Option Addr) (cap : Nat) (zs : List Int) (w : World) (hI : Ints w a zs) (hl : zs.length ≤ 4000000) :
    Calls Tryz.prog 159 #[.slice a zs.length cap] w fun e w' => e = .returned (.int .i64 (orL zs)) ∧ w = w' := by
  generalize hG : orL zs = G
  have H0 := Lib.hid (show orL (zs.drop 0) = G by rw [List.drop_zero]; exact hG)
  clear hG
  go_enter Tryz.func159, Tryz.ntmps159
  go_wp2_with fail
  go_loop [8] (fun i => ∃ k : Nat, k ≤ zs.length ∧ i = .int .i64 k ∧ orL (zs.drop k) = G) (fun i => zs.length - (intOf i).toNat)
  case atStart => exact ⟨0, by omega, rfl, H0.out⟩
  case round =>
    obtain ⟨k, hk, rfl, hp⟩ := hrel
    by_cases hlt : k < zs.length
    · obtain ⟨b, off, z, rfl, hbl, hzz, hc, _⟩ := hI.at_ hlt
      have d0 := hc 0 _ rfl
      simp only [Nat.add_zero, Nat.mul_one] at d0
      rw [drop_at zs k z hzz] at hp
      simp only [orL] at hp
      have HP := Lib.hid hp
      clear hp hc hzz hI H0
      cases hz : z != 0
      · rw [hz, if_neg (by decide)] at HP
        go_wp2_with fail
        go_round
        case rel => exact ⟨k + 1, by omega, by go_num, HP.out⟩
        case measure => simp [intOf]; omega
      · rw [hz, if_pos rfl] at HP
        go_wp2_with fail
        go_ret
        exact ⟨ret_int HP.out, rfl⟩
    · obtain rfl : k = zs.length := by omega
      rw [List.drop_length] at hp
      have HP := Lib.hid hp
      clear hp H0
      go_wp2_with fail
      go_ret
      exact ⟨ret_int (by rw [← HP.out]; rfl), rfl⟩
/-- Whether an event is ahead of another one. -/
def lessB (x y : Ev) : Bool := decide (orL [Lib.compareInt x.inn y.inn, Lib.compareInt x.id y.id] < 0)
set_option maxRecDepth 100000 in
set_option maxHeartbeats 3200000 in
theorem less_calls (x y : Ev) (w : World) : Calls Tryz.prog 88 #[.agg x.enc.toArray, .agg y.enc.toArray] w fun e w' => e = .returned (.bool (lessB x y)) ∧ Below w.heap.size w w' := by
  unfold lessB
  obtain ⟨id, inn, out, region, kind, speaker, a, cap, xs⟩ := x
  obtain ⟨id', inn', out', region', kind', speaker', a', cap', xs'⟩ := y
  simp only [Ev.enc]
  have HC := Lib.hid (fun p q w => Tryz.cmp_Compare_int p q w)
  have hb0 : ∀ o o', Below w.heap.size w ((w.alloc o).alloc o') := fun o o' => ((Below.refl _ _).alloc (Nat.le_refl _) _).alloc (by simp) _
  have hc1 : ∀ (cs cs' : Array Value) (j : Nat), ((w.alloc (.cells cs 50)).alloc (.cells cs' 50)).cell? ⟨w.heap.size, j, none⟩ = cs[j]? := fun cs cs' j => by
    rw [World.cell?_alloc_lt _ _ _ (by simp), cell_of_row _ _ j cs 50 (0, 0) (heap_alloc_last w _)]
  have hc2 : ∀ (cs cs' : Array Value) (j : Nat), ((w.alloc (.cells cs 50)).alloc (.cells cs' 50)).cell? ⟨w.heap.size + 1, j, none⟩ = cs'[j]? := fun cs cs' j => by
    rw [cell_of_row _ _ j cs' 50 (0, 0) (heap_two w _ _)]
  have HB := Lib.hid (hb0 (.cells #[.int .i64 id, .int .i64 inn, .int .i64 out, .string region, .int .u8 kind, .string speaker, .slice a xs.length cap] 50) (.cells #[.int .i64 id', .int .i64 inn', .int .i64 out', .string region', .int .u8 kind', .string speaker', .slice a' xs'.length cap'] 50))
  have e1 := hc1 #[.int .i64 id, .int .i64 inn, .int .i64 out, .string region, .int .u8 kind, .string speaker, .slice a xs.length cap] #[.int .i64 id', .int .i64 inn', .int .i64 out', .string region', .int .u8 kind', .string speaker', .slice a' xs'.length cap'] 0
  have e2 := hc1 #[.int .i64 id, .int .i64 inn, .int .i64 out, .string region, .int .u8 kind, .string speaker, .slice a xs.length cap] #[.int .i64 id', .int .i64 inn', .int .i64 out', .string region', .int .u8 kind', .string speaker', .slice a' xs'.length cap'] 1
  have e3 := hc2 #[.int .i64 id, .int .i64 inn, .int .i64 out, .string region, .int .u8 kind, .string speaker, .slice a xs.length cap] #[.int .i64 id', .int .i64 inn', .int .i64 out', .string region', .int .u8 kind', .string speaker', .slice a' xs'.length cap'] 0
  have e4 := hc2 #[.int .i64 id, .int .i64 inn, .int .i64 out, .string region, .int .u8 kind, .string speaker, .slice a xs.length cap] #[.int .i64 id', .int .i64 inn', .int .i64 out', .string region', .int .u8 kind', .string speaker', .slice a' xs'.length cap'] 1
  replace e1 := e1.trans (show _ = some (Value.int .i64 id) from rfl)
  replace e2 := e2.trans (show _ = some (Value.int .i64 inn) from rfl)
  replace e3 := e3.trans (show _ = some (Value.int .i64 id') from rfl)
  replace e4 := e4.trans (show _ = some (Value.int .i64 inn') from rfl)
  generalize hW : (w.alloc (.cells #[.int .i64 id, .int .i64 inn, .int .i64 out, .string region, .int .u8 kind, .string speaker, .slice a xs.length cap] 50)).alloc (.cells #[.int .i64 id', .int .i64 inn', .int .i64 out', .string region', .int .u8 kind', .string speaker', .slice a' xs'.length cap'] 50) = W at *
  have HW := Lib.hid hW
  clear hW hb0 hc1 hc2
  go_enter Tryz.func88, Tryz.ntmps88
  go_wp2_with fail
  rw [HW.out]
  refine wp_region_still_tail 12 (by kernel_rfl) (by kernel_rfl) ?_
  simp only [List.take_succ_cons, List.take_zero, List.drop_succ_cons, List.drop_zero]
  repeat still_step
  still_call (HC.out _ _ _)
  repeat still_step
  still_call (HC.out _ _ _)
  refine wpStill_nil ?_
  have HI : Hid (∀ w2 : World, Ints (w2.alloc (.cells #[.int .i64 (Lib.compareInt inn inn'), .int .i64 (Lib.compareInt id id')] 3)) (some ⟨w2.heap.size, 0, none⟩) [Lib.compareInt inn inn', Lib.compareInt id id']) := Lib.hid (fun w2 => by
    refine .inr ⟨w2.heap.size, 0, rfl, by simp, fun i z hz => ⟨fun j v hv => ?_, trivial⟩⟩
    match j, hv with
    | 0, hv =>
      simp at hv
      subst hv
      rw [show 0 + i * 1 + 0 = i by omega, cell_of_row _ _ i _ 3 (0, 0) (heap_alloc_last w2 _)]
      match i, hz with
      | 0, hz => simp at hz; subst hz; rfl
      | 1, hz => simp at hz; subst hz; rfl)
  have HI2 : Hid (Ints ((W.alloc (.cells #[.int .i64 (Lib.compareInt inn inn'), .int .i64 (Lib.compareInt id id')] 3)).drew) (some ⟨W.heap.size, 0, none⟩) [Lib.compareInt inn inn', Lib.compareInt id id']) := Lib.hid (HI.out W)
  go_wp2_with fail
  refine (or_calls _ _ [Lib.compareInt inn inn', Lib.compareInt id id'] _ HI2.out (by simp)).mono ?_
  rintro e w' ⟨rfl, rfl⟩
  go_wp2_with fail
  go_ret
  exact ⟨rfl, by first | exact (HB.out.drew).alloc HB.out.size _ | exact (HB.out.alloc HB.out.size _).drew | exact HB.out.alloc HB.out.size _⟩
end Go.Proofs.YtnlnmbcaongehaaGreatDoor
namespace Go.Proofs.YtnlnmbcaongehaaGreatDoor
open Go.RowKit
def rowsFrom : List Row → Int
  | [] => 0
  | r :: l => if (evRowErr r.runs != 0) = true then evRowErr r.runs else rowsFrom l
/-- The error of the rows of an event in a region. -/
def rowsErr (R : Reg) (rows : List Row) : Int := if (rowsFrom rows != 0) = true then rowsFrom rows else placeErr R (lensOf rows)
/-- The error of an event but for its rows. -/
def evHead (x : Ev) (found : Bool) : Int :=
  if x.id < 1 ∨ 1099511627776 < x.id ∨ spansB x.inn x.out = false then 2 else if found = false then 6 else if x.kind < 1 ∨ 4 < x.kind then 3 else if ¬ x.speaker.toList = [] ∧ nameB x.speaker = false then 5 else if x.rows.length = 0 ∨ 4 < x.rows.length then 9 else 0
/-- The first error of an event. -/
def evErr (x : Ev) (regs : List Reg) : Int := if (evHead x (findR regs x.region).2 != 0) = true then evHead x (findR regs x.region).2 else rowsErr (findR regs x.region).1 x.rows
def rowsGo (R : Reg) (rows : List Row) (k : Nat) : Int := if (rowsFrom (rows.drop k) != 0) = true then rowsFrom (rows.drop k) else placeErr R (lensOf rows)
theorem rowsGo_at (R : Reg) (rows : List Row) (k : Nat) (r : Row) (h : rows[k]? = some r) : rowsGo R rows k = if (evRowErr r.runs != 0) = true then evRowErr r.runs else rowsGo R rows (k + 1) := by
  unfold rowsGo
  rw [drop_at rows k r h, rowsFrom]
  by_cases he : (evRowErr r.runs != 0) = true
  · rw [if_pos he, if_pos he, if_pos he]
  · rw [if_neg he, if_neg he]
theorem rowsGo_end (R : Reg) (rows : List Row) : rowsGo R rows rows.length = placeErr R (lensOf rows) := by
  unfold rowsGo
  rw [List.drop_length]; rfl
theorem kindName_no (k : Int) (h : k < 1 ∨ 4 < k) : kindName k = ⟨#[]⟩ := by unfold kindName; repeat rw [if_neg (by omega)]
theorem kindName_yes (k : Int) (h0 : 1 ≤ k) (h : k ≤ 4) : ¬ (kindName k).toList = [] := by
  rcases (show k = 1 ∨ k = 2 ∨ k = 3 ∨ k = 4 by omega) with rfl | rfl | rfl | rfl <;> decide +kernel
theorem findR_fits (regs : List Reg) (nm : ByteArray) (hf : ∀ r ∈ regs, r.fits) : (findR regs nm).1.fits := by
  have hd : defReg.fits := by simp only [defReg, Reg.fits, i64]; decide
  have hz : zeroReg.fits := by simp only [zeroReg, Reg.fits, i64]; decide
  have key : ∀ l : List Reg, (∀ r ∈ l, r.fits) → (findL nm l).1.fits := by
    intro l
    induction l with
    | nil => intro _; exact hz
    | cons r l ih =>
      intro h
      rw [findL]
      split
      · exact h r (by simp)
      · exact ih (fun q hq => h q (by simp [hq]))
  unfold findR
  split
  · exact hd
  · exact key regs hf
theorem ev_cases (x : Ev) (found : Bool) : (evHead x found = 2 ∧ (x.id < 1 ∨ (1 ≤ x.id ∧ 1099511627776 < x.id))) ∨ (evHead x found = 2 ∧ 1 ≤ x.id ∧ x.id ≤ 1099511627776 ∧ spansB x.inn x.out = false) ∨
    (1 ≤ x.id ∧ x.id ≤ 1099511627776 ∧ spansB x.inn x.out = true ∧ ((evHead x found = 6 ∧ found = false) ∨ (found = true ∧
      ((evHead x found = 3 ∧ (x.kind < 1 ∨ 4 < x.kind)) ∨ (1 ≤ x.kind ∧ x.kind ≤ 4 ∧
        ((evHead x found = 5 ∧ ¬ x.speaker.toList = [] ∧ nameB x.speaker = false) ∨ ((x.speaker.toList = [] ∨ (¬ x.speaker.toList = [] ∧ nameB x.speaker = true)) ∧
          ((evHead x found = 9 ∧ (x.rows.length = 0 ∨ 4 < x.rows.length)) ∨ (evHead x found = 0 ∧ 1 ≤ x.rows.length ∧ x.rows.length ≤ 4))))))))) := by
  unfold evHead
  generalize x.rows.length = n
  cases hs : spansB x.inn x.out <;> cases found <;> cases hn : nameB x.speaker <;> by_cases hp : x.speaker.toList = [] <;> simp [hp] <;> omega
set_option maxRecDepth 100000 in
set_option maxHeartbeats 6400000 in
theorem evCheck_calls (x : Ev) (a : Option Addr) (cap : Nat) (regs : List Reg) (w : World) (hE : Env w) (hr : x.lies w) (hf : x.fits) (hR : Regs w a regs) (hfr : ∀ r ∈ regs, r.fits) (hlr : regs.length ≤ 4000000) :
    Calls Tryz.prog 87 #[.agg x.enc.toArray, .slice a regs.length cap] w fun e w' => e = .returned (.int .i64 (evErr x regs)) ∧ Below w.heap.size w w' := by
  have hFind := fun w1 h1 => find_calls a cap regs x.region w1 h1 hlr
  have hRf := findR_fits regs x.region hfr
  have hLn := fun w1 h1 h2 => lens_calls x w1 h1 h2 hf
  have hfl := lensOf_bd x.rows hf.2.2.2.2.2.2.2.1
  generalize hG : evErr x regs = G
  unfold evErr at hG
  generalize hF : findR regs x.region = F at *
  obtain ⟨R, found⟩ := F
  simp only at hG hRf
  have hcs := ev_cases x found
  obtain ⟨_, _, _, hs1, hk0, hk1, hs2, hfx, hl⟩ := hf
  have hlens : (lensOf x.rows).length = x.rows.length := by simp [lensOf]
  obtain ⟨id, inn, out, region, kind, speaker, ra, rc, rows⟩ := x
  simp only [Ev.lies] at hr hfx hl hLn hs1 hs2 hk0 hk1 hlens hfl
  simp only [Ev.enc] at hLn hFind ⊢
  generalize evHead ⟨id, inn, out, region, kind, speaker, ra, rc, rows⟩ found = EH at *
  simp only at hG hcs
  have HG := Lib.hid hG
  generalize hcs0 : #[Value.int .i64 id, .int .i64 inn, .int .i64 out, .string region, .int .u8 kind, .string speaker, .slice ra rows.length rc] = cs at *
  have f0 := box_cell w cs 50 0 (.int .i64 id) (by rw [← hcs0]; rfl)
  have f1 := box_cell w cs 50 1 (.int .i64 inn) (by rw [← hcs0]; rfl)
  have f2 := box_cell w cs 50 2 (.int .i64 out) (by rw [← hcs0]; rfl)
  have f3 := box_cell w cs 50 3 (.string region) (by rw [← hcs0]; rfl)
  have f4 := box_cell w cs 50 4 (.int .u8 kind) (by rw [← hcs0]; rfl)
  have f5 := box_cell w cs 50 5 (.string speaker) (by rw [← hcs0]; rfl)
  have f6 := box_cell w cs 50 6 (.slice ra rows.length rc) (by rw [← hcs0]; rfl)
  have HB := Lib.hid (fun (w1 : World) (h : Below (w.heap.size + 1) (w.alloc (.cells cs 50)) w1) => box_below h)
  have HE := Lib.hid (fun (w1 : World) (h : Below (w.heap.size + 1) (w.alloc (.cells cs 50)) w1) => hE.below (box_below h) (Nat.le_refl _))
  have HR := Lib.hid (fun (w1 : World) (h : Below (w.heap.size + 1) (w.alloc (.cells cs 50)) w1) => hr.later (box_below h))
  have HRg := Lib.hid (fun (w1 : World) (h : Below (w.heap.size + 1) (w.alloc (.cells cs 50)) w1) => hR.later (box_below h))
  have hb0 : Below (w.heap.size + 1) (w.alloc (.cells cs 50)) (w.alloc (.cells cs 50)) := Below.refl _ _
  have hsz : (w.alloc (.cells cs 50)).heap.size = w.heap.size + 1 := World.size_alloc _ _
  have HFind := Lib.hid hFind
  have HLn := Lib.hid hLn
  generalize hW0 : w.alloc (.cells cs 50) = W0 at *
  have HW0 := Lib.hid hW0
  have HSZ := Lib.hid hsz
  have HLENS := Lib.hid hlens
  have HRF := Lib.hid hRf
  have HFX := Lib.hid hfx
  have HCS := Lib.hid hcs
  clear hW0 hsz hE hr hR hFind hLn hG hcs hfr hF hlens hRf hfx hfl
  go_enter Tryz.func87, Tryz.ntmps87
  subst hcs0
  go_wp2_with fail
  rw [HW0.out]
  refine (HFind.out _ (HRg.out _ hb0)).mono ?_
  rintro e w1 ⟨rfl, hb1⟩
  rw [HSZ.out] at hb1
  clear HW0 HFind
  obtain ⟨Rn, Rt, Rh, Rl, Rw, Ra, Rb⟩ := R
  simp only [Reg.enc]
  have hlt1 : w.heap.size < w1.heap.size := by have := hb1.size; rw [HSZ.out] at this; omega
  have hb1a : Hid (∀ o, Below (w.heap.size + 1) W0 (w1.alloc o)) := Lib.hid (fun o => hb1.alloc (by omega) o)
  have HGo := Lib.hid (fun (n : Int) (h : EH = n) (h0 : (n != 0) = true) => (show n = G by rw [← HG.out, h, if_pos h0]))
  have HGz := Lib.hid (fun (h : EH = 0) => (show rowsErr ⟨Rn, Rt, Rh, Rl, Rw, Ra, Rb⟩ rows = G by rw [← HG.out, h, if_neg (by decide)]))
  clear HG
  generalize hrs : #[Value.string Rn, .int .i64 Rt, .int .i64 Rh, .int .i64 Rl, .int .i64 Rw, .int .u8 Ra, .bool Rb] = rs at *
  have g0 := box_cell w1 rs 44 0 (.string Rn) (by rw [← hrs]; rfl)
  have g1 := box_cell w1 rs 44 1 (.int .i64 Rt) (by rw [← hrs]; rfl)
  have g2 := box_cell w1 rs 44 2 (.int .i64 Rh) (by rw [← hrs]; rfl)
  have g3 := box_cell w1 rs 44 3 (.int .i64 Rl) (by rw [← hrs]; rfl)
  have g4 := box_cell w1 rs 44 4 (.int .i64 Rw) (by rw [← hrs]; rfl)
  have g5 := box_cell w1 rs 44 5 (.int .u8 Ra) (by rw [← hrs]; rfl)
  have g6 := box_cell w1 rs 44 6 (.bool Rb) (by rw [← hrs]; rfl)
  have hsz1 : (w1.alloc (.cells rs 44)).heap.size = w1.heap.size + 1 := World.size_alloc _ _
  have HT1 := Lib.hid (fun (w2 : World) (h : Below (w1.heap.size + 1) (w1.alloc (.cells rs 44)) w2) => (hb1a.out (.cells rs 44)).trans (h.mono (by omega)))
  have HT2 := Lib.hid (fun (w2 w3 : World) (h : Below (w1.heap.size + 1) (w1.alloc (.cells rs 44)) w2) (h3 : Below w2.heap.size w2 w3) => h.trans (h3.mono (by have := h.size; omega)))
  have hc1 : Below (w1.heap.size + 1) (w1.alloc (.cells rs 44)) (w1.alloc (.cells rs 44)) := Below.refl _ _
  have hd1 : Below (w.heap.size + 1) W0 (w1.alloc (.cells rs 44)) := hb1a.out _
  have HW1s := Lib.hid hsz1
  have HT1b := HT1
  clear hsz1
  generalize hW1 : w1.alloc (.cells rs 44) = W1 at *
  have HW1 := Lib.hid hW1
  clear hW1
  subst hrs
  have hsb := fun w2 => spans_calls inn out w2
  have hkb := fun w2 => kindName_calls kind w2 hk0 hk1
  have hnb := fun w2 => name_calls speaker w2 hs2
  generalize spansB inn out = SP at *
  generalize nameB speaker = NB at *
  have HS := Lib.hid hsb
  have HK := Lib.hid hkb
  have HN := Lib.hid hnb
  clear hsb hkb hnb
  rcases HCS.out with ⟨he, hi | ⟨hi0, hi⟩⟩ | ⟨he, hi0, hi1, hsp⟩ | ⟨hi0, hi1, hsp, ⟨he, rfl⟩ | ⟨rfl, ⟨he, hk⟩ | ⟨hkk0, hkk1, ⟨he, hsq, hnm⟩ | ⟨hsq, ⟨he, hn⟩ | ⟨he, hn0, hn1⟩⟩⟩⟩⟩
  · have HHE := Lib.hid he
    clear he HCS
    go_wp2_with fail
    rw [HW1.out]
    go_ret
    exact ⟨ret_int (HGo.out _ HHE.out rfl), HB.out _ hd1⟩
  · have HHE := Lib.hid he
    clear he HCS
    go_wp2_with fail
    rw [HW1.out]
    go_ret
    exact ⟨ret_int (HGo.out _ HHE.out rfl), HB.out _ hd1⟩
  · have HHE := Lib.hid he
    subst hsp
    clear he HCS
    go_wp2_with fail
    rw [HW1.out]
    refine (HS.out _).mono ?_
    rintro e w2 ⟨rfl, hb2⟩
    have hc2 := HT2.out _ _ hc1 hb2
    have hd2 := HT1.out _ hc2
    go_wp2_with fail
    go_ret
    exact ⟨ret_int (HGo.out _ HHE.out rfl), HB.out _ hd2⟩
  all_goals
    have HHE := Lib.hid he
    subst hsp
    clear he HCS
    go_wp2_with fail
    rw [HW1.out]
    refine (HS.out _).mono ?_
    rintro e w2 ⟨rfl, hb2⟩
    have hc2 := HT2.out _ _ hc1 hb2
    have hd2 := HT1.out _ hc2
    clear hb2
  · go_wp2_with fail
    go_ret
    exact ⟨ret_int (HGo.out _ HHE.out rfl), HB.out _ hd2⟩
  · rw [kindName_no kind hk] at HK
    clear hk
    go_wp2_with fail
    refine (HK.out _).mono ?_
    rintro e w3 ⟨rfl, hb3⟩
    have hc3 := HT2.out _ _ hc2 hb3
    have hd3 := HT1.out _ hc3
    go_wp2_with fail
    go_ret
    exact ⟨ret_int (HGo.out _ HHE.out rfl), HB.out _ hd3⟩
  all_goals
    have hkn := kindName_yes kind hkk0 hkk1
    clear hkk0 hkk1
    generalize kindName kind = KN at *
    have hkn2 : KN.toList.isEmpty = false := by simpa using hkn
    go_wp2_with fail
    refine (HK.out _).mono ?_
    rintro e w3 ⟨rfl, hb3⟩
    have hc3 := HT2.out _ _ hc2 hb3
    have hd3 := HT1.out _ hc3
    clear hb3
  · subst hnm
    have hsq2 : speaker.toList.isEmpty = false := by simpa using hsq
    go_wp2_with fail
    refine (HN.out _).mono ?_
    rintro e w4 ⟨rfl, rfl⟩
    go_wp2_with fail
    go_ret
    exact ⟨ret_int (HGo.out _ HHE.out rfl), HB.out _ hd3⟩
  · rcases hn with hn | hn <;> rcases hsq with hsq | ⟨hsq, rfl⟩
    · have hsq2 : speaker.toList.isEmpty = true := by simpa using hsq
      go_wp2_with fail
      go_ret
      exact ⟨ret_int (HGo.out _ HHE.out rfl), HB.out _ hd3⟩
    · have hsq2 : speaker.toList.isEmpty = false := by simpa using hsq
      go_wp2_with (go_at_call 150; refine (HN.out _).mono ?_; rintro e w4 ⟨rfl, rfl⟩)
      go_ret
      exact ⟨ret_int (HGo.out _ HHE.out rfl), HB.out _ hd3⟩
    · have hsq2 : speaker.toList.isEmpty = true := by simpa using hsq
      have t0 : ((rows.length : Int) == 0) = false := by rw [beq_eq_false_iff_ne]; omega
      have t1 : ¬ rows = [] := by rintro rfl; simp at hn
      go_wp2_with fail
      go_ret
      exact ⟨ret_int (HGo.out _ HHE.out rfl), HB.out _ hd3⟩
    · have hsq2 : speaker.toList.isEmpty = false := by simpa using hsq
      have t0 : ((rows.length : Int) == 0) = false := by rw [beq_eq_false_iff_ne]; omega
      have t1 : ¬ rows = [] := by rintro rfl; simp at hn
      go_wp2_with (go_at_call 150; refine (HN.out _).mono ?_; rintro e w4 ⟨rfl, rfl⟩)
      go_ret
      exact ⟨ret_int (HGo.out _ HHE.out rfl), HB.out _ hd3⟩
  · have HGG := Lib.hid (HGz.out HHE.out)
    clear HGo HGz HHE HS HK hb1a HW1 hlr HRg hc1 hd1 hc2 hd2 hb0 hb1
    have t0 : ((rows.length : Int) == 0) = false := by rw [beq_eq_false_iff_ne]; omega
    have t1 : ¬ rows = [] := by rintro rfl; simp at hn0
    rcases hsq with hsq | ⟨hsq, rfl⟩
    · have hsq2 : speaker.toList.isEmpty = true := by simpa using hsq
      go_wp2_with fail
      clear hkn hkn2 hsq hsq2 t0 t1 HN
      go_loopw [66] (fun i wr => ∃ k : Nat, k ≤ rows.length ∧ i = .int .i64 k ∧ rowsGo ⟨Rn, Rt, Rh, Rl, Rw, Ra, Rb⟩ rows k = G ∧ Below (w1.heap.size + 1) W1 wr) (fun i _ => rows.length - (intOf i).toNat)
      case atStart => exact ⟨0, by omega, rfl, by rw [← HGG.out]; rfl, hc3⟩
      case round =>
        obtain ⟨k, hk, rfl, hp, hb⟩ := hrel
        have hdd := HT1.out _ hb
        clear hc3 hd3 HGG
        by_cases hlt : k < rows.length
        · obtain ⟨b, off, r, rfl, hbl, hx, hc, hok⟩ := (HR.out _ hdd).at_ hlt
          have hfr := HFX.out r (List.mem_of_getElem? hx)
          have HC := Lib.hid (fun w1 h1 h2 => evRow_calls r w1 h1 h2 hfr)
          rw [rowsGo_at _ rows k r hx] at hp
          obtain ⟨qa, qc, rr⟩ := r
          simp only [Row.enc, Row.lies] at HC hok hp
          have d0 := hc 0 _ rfl
          simp only [Nat.add_zero, Nat.mul_one] at d0
          have hbs := hb.size
          have HOK := Lib.hid (fun o => hok.later ((Below.refl wr.heap.size wr).alloc (Nat.le_refl _) o))
          have HP := Lib.hid hp
          have HA := Lib.hid (fun (o : Obj) => (HT2.out _ _ hb ((Below.refl wr.heap.size wr).alloc (Nat.le_refl _) o)))
          clear hc hx hfr hok hp
          generalize evRowErr rr = E at *
          cases hE : E != 0
          · have hE0 : E = 0 := by simpa using hE
            subst hE0
            go_wp2_with (go_at_call 156; refine (HC.out _ (HE.out _ (HT1.out _ (HA.out _))) (HOK.out _)).mono ?_; rintro e w5 ⟨rfl, hb5⟩; have hc5 := HT2.out _ _ (HA.out _) hb5; clear hb5)
            go_roundw
            case rel => exact ⟨k + 1, by omega, by go_num, by rw [← HP.out]; rfl, hc5⟩
            case measure => simp [intOf]; omega
          · rw [hE] at HP
            go_wp2_with (go_at_call 156; refine (HC.out _ (HE.out _ (HT1.out _ (HA.out _))) (HOK.out _)).mono ?_; rintro e w5 ⟨rfl, hb5⟩; have hc5 := HT2.out _ _ (HA.out _) hb5; clear hb5)
            go_ret
            exact ⟨ret_int (by rw [← HP.out]; rfl), HB.out _ (HT1.out _ hc5)⟩
        · obtain rfl : k = rows.length := by omega
          rw [rowsGo_end] at hp
          have HPl := Lib.hid (fun (a : Option Addr) (c : Nat) (w : World) (hI : Ints w a (lensOf rows)) => place_calls2 ⟨Rn, Rt, Rh, Rl, Rw, Ra, Rb⟩ a c (lensOf rows) w HRF.out hI (by rw [HLENS.out]; omega))
          simp only [hp, HLENS.out, Reg.enc] at HPl
          clear hp HT1 HFX HRF hi0 hi1 hn0 hn1
          have hdd0 := hdd
          have hbD : Below (w1.heap.size + 1) W1 wr.drew := hb.drew
          have hdD : Below (w.heap.size + 1) W0 wr.drew := hdd.drew
          have hx0 : w.heap.size < wr.heap.size := by have := hdd0.size; rw [HSZ.out] at this; omega
          have hx1 : w1.heap.size < wr.heap.size := by have := hb.size; have h9 := HW1s.out; omega
          go_wp2_with fail
          go_region_with (first
            | (go_at_call 158; refine (HLn.out _ (HE.out _ hdD) (HR.out _ hdD)).mono ?_; rintro e w6 ⟨a', c', rfl, hI, hb6⟩; have hc6 := HT2.out _ _ hbD hb6; have hd6 := HT1b.out _ hc6; clear hb6)
            | (go_at_call 157; refine (HPl.out _ _ _ hI).mono ?_; rintro e w7 ⟨v, rfl, hb7⟩; have hc7 := HT2.out _ _ hc6 hb7; have hd7 := HT1b.out _ hc7; clear hb7))
          all_goals
            go_wp2_with fail
            go_ret
            exact ⟨ret_int rfl, HB.out _ hd7⟩
    · have hsq2 : speaker.toList.isEmpty = false := by simpa using hsq
      go_wp2_with (go_at_call 150; refine (HN.out _).mono ?_; rintro e w4 ⟨rfl, rfl⟩)
      clear hkn hkn2 hsq hsq2 t0 t1 HN
      go_loopw [66] (fun i wr => ∃ k : Nat, k ≤ rows.length ∧ i = .int .i64 k ∧ rowsGo ⟨Rn, Rt, Rh, Rl, Rw, Ra, Rb⟩ rows k = G ∧ Below (w1.heap.size + 1) W1 wr) (fun i _ => rows.length - (intOf i).toNat)
      case atStart => exact ⟨0, by omega, rfl, by rw [← HGG.out]; rfl, hc3⟩
      case round =>
        obtain ⟨k, hk, rfl, hp, hb⟩ := hrel
        have hdd := HT1.out _ hb
        clear hc3 hd3 HGG
        by_cases hlt : k < rows.length
        · obtain ⟨b, off, r, rfl, hbl, hx, hc, hok⟩ := (HR.out _ hdd).at_ hlt
          have hfr := HFX.out r (List.mem_of_getElem? hx)
          have HC := Lib.hid (fun w1 h1 h2 => evRow_calls r w1 h1 h2 hfr)
          rw [rowsGo_at _ rows k r hx] at hp
          obtain ⟨qa, qc, rr⟩ := r
          simp only [Row.enc, Row.lies] at HC hok hp
          have d0 := hc 0 _ rfl
          simp only [Nat.add_zero, Nat.mul_one] at d0
          have hbs := hb.size
          have HOK := Lib.hid (fun o => hok.later ((Below.refl wr.heap.size wr).alloc (Nat.le_refl _) o))
          have HP := Lib.hid hp
          have HA := Lib.hid (fun (o : Obj) => (HT2.out _ _ hb ((Below.refl wr.heap.size wr).alloc (Nat.le_refl _) o)))
          clear hc hx hfr hok hp
          generalize evRowErr rr = E at *
          cases hE : E != 0
          · have hE0 : E = 0 := by simpa using hE
            subst hE0
            go_wp2_with (go_at_call 156; refine (HC.out _ (HE.out _ (HT1.out _ (HA.out _))) (HOK.out _)).mono ?_; rintro e w5 ⟨rfl, hb5⟩; have hc5 := HT2.out _ _ (HA.out _) hb5; clear hb5)
            go_roundw
            case rel => exact ⟨k + 1, by omega, by go_num, by rw [← HP.out]; rfl, hc5⟩
            case measure => simp [intOf]; omega
          · rw [hE] at HP
            go_wp2_with (go_at_call 156; refine (HC.out _ (HE.out _ (HT1.out _ (HA.out _))) (HOK.out _)).mono ?_; rintro e w5 ⟨rfl, hb5⟩; have hc5 := HT2.out _ _ (HA.out _) hb5; clear hb5)
            go_ret
            exact ⟨ret_int (by rw [← HP.out]; rfl), HB.out _ (HT1.out _ hc5)⟩
        · obtain rfl : k = rows.length := by omega
          rw [rowsGo_end] at hp
          have HPl := Lib.hid (fun (a : Option Addr) (c : Nat) (w : World) (hI : Ints w a (lensOf rows)) => place_calls2 ⟨Rn, Rt, Rh, Rl, Rw, Ra, Rb⟩ a c (lensOf rows) w HRF.out hI (by rw [HLENS.out]; omega))
          simp only [hp, HLENS.out, Reg.enc] at HPl
          clear hp HT1 HFX HRF hi0 hi1 hn0 hn1
          have hdd0 := hdd
          have hbD : Below (w1.heap.size + 1) W1 wr.drew := hb.drew
          have hdD : Below (w.heap.size + 1) W0 wr.drew := hdd.drew
          have hx0 : w.heap.size < wr.heap.size := by have := hdd0.size; rw [HSZ.out] at this; omega
          have hx1 : w1.heap.size < wr.heap.size := by have := hb.size; have h9 := HW1s.out; omega
          go_wp2_with fail
          go_region_with (first
            | (go_at_call 158; refine (HLn.out _ (HE.out _ hdD) (HR.out _ hdD)).mono ?_; rintro e w6 ⟨a', c', rfl, hI, hb6⟩; have hc6 := HT2.out _ _ hbD hb6; have hd6 := HT1b.out _ hc6; clear hb6)
            | (go_at_call 157; refine (HPl.out _ _ _ hI).mono ?_; rintro e w7 ⟨v, rfl, hb7⟩; have hc7 := HT2.out _ _ hc6 hb7; have hd7 := HT1b.out _ hc7; clear hb7))
          all_goals
            go_wp2_with fail
            go_ret
            exact ⟨ret_int rfl, HB.out _ hd7⟩
end Go.Proofs.YtnlnmbcaongehaaGreatDoor
namespace Go.Proofs.YtnlnmbcaongehaaGreatDoor
open Go.RowKit Go.Maps
/-- The element ahead of the k-th. -/
def aheadOf {α : Type} (xs : List α) : Nat → Option α
  | 0 => none
  | k + 1 => xs[k]?
theorem keyed2 : Keyed Tryz.prog 2 := int_keyed Tryz.underlying2
theorem zero3 (w : World) : (zeroValue 3).run Tryz.prog w = .ok (.int .i64 0) w := by kernel_rfl
theorem isKey (z : Int) : WideAt.IsKeyLit (.int .i64 z) := trivial
theorem wf64 {z : Int} (h : i64 z) : (Lit.int .i64 z).wf = true := WalkArith.wf_i64 h
theorem key2 {z : Int} (h : i64 z) : keyOf Tryz.prog 2 (.int .i64 z) = some (.int .i64 z) := keyOf_int_mk Tryz.underlying2 (wf64 h)
/-- A look-up at the operation, by the equation of its run. -/
theorem wpList_lookup_run {P : Program} (w : World) {ops : Array Oper} {rest : List Oper} {o : Oper} {a : Act} {Q : Exit → Act → World → Prop}
    (hg : o.guard = none) (m x : Operand) (t : TypeId) (c : Bool) (hop : o.op = Op.lookup t m x c) (mv key v : Value) (hm : a.eval m = mv) (hx : a.eval x = key)
    (hrun : (Instr.lookup t mv key c).run P w = .ok v w) (hK : wpList P ops Q rest (a.put o.dst v) w) : wpList P ops Q (o :: rest) a w := by
  refine wpList_plain hg fun K' hK' => ?_
  unfold Oper.wp
  simp [execOp, hop, hm, hx, hrun, Result.andThen]
  exact hK' _ _ hK
/-- Block b is a map of at most n entries, from int64 to int, that holds f. -/
def IMap (w : World) (b n : Nat) (f : Int → Option Nat) : Prop := ∃ D : DataW Unit, w.ownsMap Tryz.prog 2 (plainElem Tryz.prog 3) b n D ∧
  ∀ z, Maps.has D (.int .i64 z) = (f z).isSome ∧ D.atKey (.int .i64 z) (.lit (.int .i64 0)) = .lit (.int .i64 ((f z).getD 0 : Nat))
theorem IMap.made (w : World) : IMap (w.alloc (.map #[] 0)) w.heap.size 0 (fun _ => none) :=
  ⟨_, World.ownsMap_made _ _ _ _, fun z => ⟨rfl, rfl⟩⟩
theorem IMap.lt {w : World} {b n : Nat} {f : Int → Option Nat} (h : IMap w b n f) : b < w.heap.size := by
  obtain ⟨D, h, _⟩ := h; exact h.lt
theorem ownsMap_below {H : Type} {P : Program} {k : TypeId} {R : Value → Option (DataW H × List MemPlace)} {w w' : World} {b n B : Nat} {D : DataW H} (h : w.ownsMap P k R b n D) (hb : Below B w w') (hB : b < B) : w'.ownsMap P k R b n D := by
  obtain ⟨es, clock, h1, r⟩ := h
  exact ⟨es, clock, (hb.block b hB).trans h1, r⟩
theorem IMap.below {w w' : World} {b n B : Nat} {f : Int → Option Nat} (h : IMap w b n f) (hb : Below B w w') (hB : b < B) : IMap w' b n f := by
  obtain ⟨D, h, r⟩ := h
  exact ⟨D, ownsMap_below h hb hB, r⟩
theorem IMap.look {w : World} {b n : Nat} {f : Int → Option Nat} (h : IMap w b n f) {z : Int} (hz : i64 z) :
    (Instr.lookup 154 (.map (some b)) (.int .i64 z) true).run Tryz.prog w = .ok (.tuple #[.int .i64 ((f z).getD 0 : Nat), .bool (f z).isSome]) w := by
  obtain ⟨D, h, r⟩ := h
  obtain ⟨v, ps, hrun, hv⟩ := h.look_ok keyed2 Tryz.underlying154 (zero3 w) (plainElem_int Tryz.underlying3 (by decide)) (key2 hz)
  rw [(r z).2] at hv
  obtain ⟨c, rfl, hc, _⟩ := plainElem_int_inv Tryz.underlying3 hv
  simp only [Prod.mk.injEq, DataW.lit.injEq, Lit.int.injEq, true_and] at hc
  rw [hrun, (r z).1, ← hc.1]
theorem IMap.put {w : World} {b n : Nat} {f : Int → Option Nat} (h : IMap w b n f) {z : Int} (hz : i64 z) (hn : n < maxLen) (v : Nat) (hv : i64 v) :
    ∃ w', (Instr.mapUpdate 154 (.map (some b)) (.int .i64 z) (.int .i64 v)).run Tryz.prog w = .ok () w' ∧ IMap w' b (n + 1) (fun y => if y = z then some v else f y) ∧ w.grownBy w' (some b) := by
  obtain ⟨D, h, r⟩ := h
  obtain ⟨w', h1, h2, h3⟩ := h.update keyed2 Tryz.underlying154 hn (key2 hz) (plainElem_int Tryz.underlying3 (wf64 hv))
  refine ⟨w', h1, ⟨_, h2, fun y => ?_⟩, h3⟩
  by_cases hy : y = z
  · subst hy
    simp only [if_true]
    exact ⟨has_put_same h.isMap (isKey _) _, atKey_put_same h.isMap (isKey _) _ _⟩
  · simp only [if_neg hy]
    have hne : Lit.int .i64 y ≠ Lit.int .i64 z := by simpa using hy
    rw [has_put_other hne, atKey_put_other hne]
    exact r y
/-- Block b is a map of at most n entries, from int64 to bool, that holds f. -/
def BMap (w : World) (b n : Nat) (f : Int → Bool) : Prop := ∃ D : DataW Unit, w.ownsMap Tryz.prog 2 (plainElem Tryz.prog 4) b n D ∧
  ∀ z, D.atKey (.int .i64 z) (.lit (.bool false)) = .lit (.bool (f z))
theorem BMap.made (w : World) : BMap (w.alloc (.map #[] 0)) w.heap.size 0 (fun _ => false) :=
  ⟨_, World.ownsMap_made _ _ _ _, fun z => rfl⟩
theorem BMap.lt {w : World} {b n : Nat} {f : Int → Bool} (h : BMap w b n f) : b < w.heap.size := by
  obtain ⟨D, h, _⟩ := h; exact h.lt
theorem BMap.below {w w' : World} {b n B : Nat} {f : Int → Bool} (h : BMap w b n f) (hb : Below B w w') (hB : b < B) : BMap w' b n f := by
  obtain ⟨D, h, r⟩ := h
  exact ⟨D, ownsMap_below h hb hB, r⟩
end Go.Proofs.YtnlnmbcaongehaaGreatDoor
namespace Go.Proofs.YtnlnmbcaongehaaGreatDoor
open Go.RowKit
/-- A comment. -/
structure Cm where
  id : Int
  ev : Int
  frm : Int
  til : Int
  author : ByteArray
  text : ByteArray
  done : Bool
  lost : Bool
def Cm.enc (c : Cm) : List Value := [.int .i64 c.id, .int .i64 c.ev, .int .i64 c.frm, .int .i64 c.til, .string c.author, .string c.text, .bool c.done, .bool c.lost]
def Cm.fits (c : Cm) : Prop := i64 c.id ∧ i64 c.ev ∧ i64 c.frm ∧ i64 c.til ∧ c.author.size ≤ 4000000 ∧ c.text.size ≤ 4000000
/-- A document, with the places of its lists. -/
structure Doc where
  title : ByteArray
  lang : ByteArray
  rate : Int
  drop : Bool
  last : Int
  ra : Option Addr
  rc : Nat
  regs : List Reg
  ea : Option Addr
  ec : Nat
  evs : List Ev
  ca : Option Addr
  cc : Nat
  cms : List Cm
def Doc.enc (d : Doc) : List Value := [.string d.title, .string d.lang, .int .u8 d.rate, .bool d.drop, .int .i64 d.last, .slice d.ra d.regs.length d.rc, .slice d.ea d.evs.length d.ec, .slice d.ca d.cms.length d.cc]
def EvsAt (w : World) (a : Option Addr) (xs : List Ev) : Prop := SliceOf 7 Ev.enc Ev.lies w a xs
theorem EvsAt.later {w w' : World} {a : Option Addr} {xs : List Ev} (h : EvsAt w a xs) (hb : Below w.heap.size w w') : EvsAt w' a xs := SliceOf.keeps Ev.keeps w w' a xs hb h
def CmsAt (w : World) (a : Option Addr) (xs : List Cm) : Prop := SliceOf 8 Cm.enc Flat w a xs
theorem CmsAt.later {w w' : World} {a : Option Addr} {xs : List Cm} (h : CmsAt w a xs) (hb : Below w.heap.size w w') : CmsAt w' a xs := SliceOf.keeps Flat.keeps w w' a xs hb h
def Doc.lies (w : World) (d : Doc) : Prop := Regs w d.ra d.regs ∧ EvsAt w d.ea d.evs ∧ CmsAt w d.ca d.cms
theorem Doc.later {w w' : World} {d : Doc} (h : d.lies w) (hb : Below w.heap.size w w') : d.lies w' := ⟨h.1.later hb, h.2.1.later hb, h.2.2.later hb⟩
def Doc.fits (d : Doc) : Prop := d.title.size ≤ 4000000 ∧ d.lang.size ≤ 4000000 ∧ 0 ≤ d.rate ∧ d.rate ≤ 255 ∧ i64 d.last ∧ (∀ r ∈ d.regs, r.fits) ∧ d.regs.length ≤ 4000000 ∧ (∀ x ∈ d.evs, x.fits) ∧ d.evs.length ≤ 4000000 ∧ (∀ c ∈ d.cms, c.fits) ∧ d.cms.length ≤ 4000000
/-- The first error of the numbers of a comment; f: where events lie. -/
def anchErr (last : Int) (f : Int → Option Nat) (evs : List Ev) (c : Cm) : Int :=
  if c.ev < 1 ∨ last < c.ev then 2 else if c.lost then (if c.frm ≠ 0 ∨ c.til ≠ 0 then 2 else 0) else match f c.ev with
    | none => 6
    | some i => if c.frm < 0 ∨ c.til ≤ c.frm ∨ evLen ((evs[i]?.map Ev.rows).getD []) < c.til then 2 else 0
theorem anch_cases (last : Int) (f : Int → Option Nat) (evs : List Ev) (c : Cm) (hf : ∀ z i, f z = some i → i < evs.length) :
    (anchErr last f evs c = 2 ∧ c.ev < 1) ∨ (anchErr last f evs c = 2 ∧ 1 ≤ c.ev ∧ last < c.ev) ∨ (1 ≤ c.ev ∧ c.ev ≤ last ∧
      ((c.lost = true ∧ ((anchErr last f evs c = 2 ∧ c.frm ≠ 0) ∨ (anchErr last f evs c = 2 ∧ c.frm = 0 ∧ c.til ≠ 0) ∨ (anchErr last f evs c = 0 ∧ c.frm = 0 ∧ c.til = 0))) ∨
       (c.lost = false ∧ ((f c.ev = none ∧ anchErr last f evs c = 6) ∨ ∃ i x, f c.ev = some i ∧ i < evs.length ∧ evs[i]? = some x ∧
          ((anchErr last f evs c = 2 ∧ c.frm < 0) ∨ (anchErr last f evs c = 2 ∧ 0 ≤ c.frm ∧ c.til ≤ c.frm) ∨ (0 ≤ c.frm ∧ c.frm < c.til ∧ ((anchErr last f evs c = 2 ∧ evLen x.rows < c.til) ∨ (anchErr last f evs c = 0 ∧ c.til ≤ evLen x.rows)))))))) := by
  unfold anchErr
  by_cases h1 : c.ev < 1
  · left; simp [h1]
  right
  by_cases h2 : last < c.ev
  · left; simp [h1, h2]; omega
  right
  refine ⟨by omega, by omega, ?_⟩
  rw [if_neg (by omega)]
  cases hl : c.lost
  · right
    refine ⟨rfl, ?_⟩
    cases hq : f c.ev with
    | none => left; simp
    | some i =>
      right
      have hi := hf _ _ hq
      refine ⟨i, evs[i], rfl, hi, List.getElem?_eq_getElem hi, ?_⟩
      simp only [List.getElem?_eq_getElem hi, Option.map_some, Option.getD_some, Bool.false_eq_true, if_false]
      by_cases h3 : c.frm < 0
      · left; simp [h3]
      right
      by_cases h4 : c.til ≤ c.frm
      · left; simp [h4]; omega
      right
      refine ⟨by omega, by omega, ?_⟩
      by_cases h5 : evLen evs[i].rows < c.til
      · left; simp [h5]
      · right; rw [if_neg (by omega)]; exact ⟨rfl, by omega⟩
  · left
    refine ⟨rfl, ?_⟩
    simp only [if_true]
    by_cases h3 : c.frm = 0
    · by_cases h4 : c.til = 0
      · right; right; simp [h3, h4]
      · right; left; simp [h3, h4]
    · left; simp [h3]
theorem cell_keep {W w' : World} {B b o : Nat} {v : Value} (h : W.cell? ⟨b, o, none⟩ = some v) (hB : b < B) (hb : Below B W w') : w'.cell? ⟨b, o, none⟩ = some v :=
  (hb.cell (p := ⟨b, o, none⟩) hB).trans h
/-- Two boxes, in every later world. -/
theorem box2_fst (w : World) (cs cs' : Array Value) (t t' : TypeId) (j : Nat) (v : Value) (h : cs[j]? = some v) (w' : World) (hb : Below (w.heap.size + 2) ((w.alloc (.cells cs t)).alloc (.cells cs' t')) w') : w'.cell? ⟨w.heap.size, j, none⟩ = some v := by
  refine cell_keep ?_ (by omega) hb
  rw [World.cell?_alloc_lt _ _ _ (by simp), cell_of_row _ _ j cs t (0, 0) (heap_alloc_last w _), h]
theorem box2_snd (w : World) (cs cs' : Array Value) (t t' : TypeId) (j : Nat) (v : Value) (h : cs'[j]? = some v) (w' : World) (hb : Below (w.heap.size + 2) ((w.alloc (.cells cs t)).alloc (.cells cs' t')) w') : w'.cell? ⟨w.heap.size + 1, j, none⟩ = some v := by
  refine cell_keep ?_ (by omega) hb
  have := heap_alloc_last (w.alloc (.cells cs t)) (.cells cs' t')
  rw [World.size_alloc] at this
  rw [cell_of_row _ _ j cs' t' (0, 0) this, h]
theorem box2_below {w w' : World} {o o' : Obj} (hb : Below (w.heap.size + 2) ((w.alloc o).alloc o') w') : Below w.heap.size w w' :=
  (((Below.refl _ _).alloc (Nat.le_refl _) _).alloc (by simp) _).trans (hb.mono (by omega))
set_option maxRecDepth 100000 in
set_option maxHeartbeats 6400000 in
theorem anchored_calls (d : Doc) (c : Cm) (b n : Nat) (f : Int → Option Nat) (w : World) (hE : Env w) (hd : EvsAt w d.ea d.evs) (hfd : ∀ x ∈ d.evs, x.fits) (hle : d.evs.length ≤ 4000000) (hc : c.fits) (hM : IMap w b n f) (hf : ∀ z i, f z = some i → i < d.evs.length) :
    Calls Tryz.prog 161 #[.agg d.enc.toArray, .agg c.enc.toArray, .map (some b)] w fun e w' => e = .returned (.int .i64 (anchErr d.last f d.evs c)) ∧ Below w.heap.size w w' := by
  have hcs := anch_cases d.last f d.evs c hf
  generalize anchErr d.last f d.evs c = G at *
  obtain ⟨title, lang, rate, drop, last, ra, rc, regs, ea, ec, evs, ca, cc, cms⟩ := d
  obtain ⟨_, hi2, hi3, hi4, _, _⟩ := hc
  obtain ⟨id, ev, frm, til, author, text, done, lost⟩ := c
  simp only at hcs hi2 hi3 hi4 hd hfd hf hle
  simp only [Doc.enc, Cm.enc]
  generalize hds : #[Value.string title, .string lang, .int .u8 rate, .bool drop, .int .i64 last, .slice ra regs.length rc, .slice ea evs.length ec, .slice ca cms.length cc] = ds
  generalize hqs : #[Value.int .i64 id, .int .i64 ev, .int .i64 frm, .int .i64 til, .string author, .string text, .bool done, .bool lost] = qs
  have f4 := box2_fst w ds qs 27 52 4 (.int .i64 last) (by rw [← hds]; rfl)
  have f6 := box2_fst w ds qs 27 52 6 (.slice ea evs.length ec) (by rw [← hds]; rfl)
  have g1 := box2_snd w ds qs 27 52 1 (.int .i64 ev) (by rw [← hqs]; rfl)
  have g2 := box2_snd w ds qs 27 52 2 (.int .i64 frm) (by rw [← hqs]; rfl)
  have g3 := box2_snd w ds qs 27 52 3 (.int .i64 til) (by rw [← hqs]; rfl)
  have g7 := box2_snd w ds qs 27 52 7 (.bool lost) (by rw [← hqs]; rfl)
  have HB := Lib.hid (fun (w1 : World) (h : Below (w.heap.size + 2) ((w.alloc (.cells ds 27)).alloc (.cells qs 52)) w1) => box2_below h)
  have hb0 : Below (w.heap.size + 2) ((w.alloc (.cells ds 27)).alloc (.cells qs 52)) ((w.alloc (.cells ds 27)).alloc (.cells qs 52)) := Below.refl _ _
  have hsz : ((w.alloc (.cells ds 27)).alloc (.cells qs 52)).heap.size = w.heap.size + 2 := by simp
  have HLK := Lib.hid ((hM.below (HB.out _ hb0) hM.lt).look hi2)
  generalize hW0 : (w.alloc (.cells ds 27)).alloc (.cells qs 52) = W0 at *
  have HW0 := Lib.hid hW0
  have HSZ := Lib.hid hsz
  have HD := Lib.hid hd
  have HFD := Lib.hid hfd
  clear hW0 hsz hd hfd hf hM
  have hlk := HLK.out
  rw [← HW0.out] at hlk
  clear HLK
  go_enter Tryz.func161, Tryz.ntmps161
  subst hds
  subst hqs
  rcases hcs with ⟨rfl, h1⟩ | ⟨rfl, h1, h2⟩ | ⟨h1, h2, ⟨rfl, ⟨rfl, h3⟩ | ⟨rfl, rfl, h3⟩ | ⟨rfl, rfl, rfl⟩⟩ | ⟨rfl, ⟨hq, rfl⟩ | ⟨i, x, hq, hi, hx, hcs⟩⟩⟩
  · clear hlk
    go_wp2_with fail
    rw [HW0.out]
    go_ret
    exact ⟨rfl, HB.out _ hb0⟩
  · clear hlk
    go_wp2_with fail
    rw [HW0.out]
    go_ret
    exact ⟨rfl, HB.out _ hb0⟩
  · have h3d : (frm != 0) = true := by simpa using h3
    clear hlk h3
    go_wp2_with fail
    rw [HW0.out]
    go_ret
    exact ⟨rfl, HB.out _ hb0⟩
  · have h3d : (til != 0) = true := by simpa using h3
    clear hlk h3
    go_wp2_with fail
    rw [HW0.out]
    go_ret
    exact ⟨rfl, HB.out _ hb0⟩
  · clear hlk
    go_wp2_with fail
    rw [HW0.out]
    go_ret
    exact ⟨rfl, HB.out _ hb0⟩
  · rw [hq] at hlk
    simp only [Option.isSome_none, Option.getD_none] at hlk
    have HLK := Lib.hid hlk
    clear hq hlk
    go_wp2_with (at_lookup; refine wpList_lookup_run _ rfl _ _ _ _ rfl _ _ _ rfl rfl HLK.out ?_)
    rw [HW0.out]
    go_ret
    exact ⟨rfl, HB.out _ hb0⟩
  · rw [hq] at hlk
    simp only [Option.isSome_some, Option.getD_some] at hlk
    have HLK := Lib.hid hlk
    clear hlk
    obtain ⟨bb, off, x', rfl, hbl, hx', hcx, hok0⟩ := HD.out.at_ hi
    have hok := Ev.keeps _ _ _ (HB.out _ hb0) hok0
    obtain rfl : x' = x := Option.some.inj (hx'.symm.trans hx)
    have hfx := HFD.out x' (List.mem_of_getElem? hx)
    have hb0d : Below (w.heap.size + 2) W0 W0.drew := hb0.drew
    have HLen := Lib.hid (evLen_calls x' W0.drew (hE.below (HB.out _ hb0d) (Nat.le_refl _)) (Ev.keeps _ _ _ ((Below.refl W0.heap.size W0).drew) hok) hfx)
    have hcd : ∀ j v, x'.enc[j]? = some v → ∀ w1, Below (w.heap.size + 2) W0 w1 → w1.cell? ⟨bb, off + i * 7 + j, none⟩ = some v := fun j v hv w1 h => by
      rw [(HB.out _ h).cell (p := ⟨bb, off + i * 7 + j, none⟩) hbl]
      exact hcx j v hv
    clear hq hx hx' hcx hok hok0 hfx
    obtain ⟨xid, xin, xout, xreg, xkind, xsp, xa, xc, xrows⟩ := x'
    have HCD := Lib.hid hcd
    simp only [Ev.enc] at HLen hcs HCD
    generalize evLen xrows = L at *
    clear hcd
    rcases hcs with ⟨rfl, h3⟩ | ⟨rfl, h3, h4⟩ | ⟨h3, h4, ⟨rfl, h5⟩ | ⟨rfl, h5⟩⟩
    · have h3d : decide (frm < 0) = true := by simp; omega
      clear HLen hbl
      go_wp2_with (at_lookup; refine wpList_lookup_run _ rfl _ _ _ _ rfl _ _ _ rfl rfl HLK.out ?_)
      rw [HW0.out]
      go_quiet (fail)
      go_wp2_with fail
      go_ret
      exact ⟨rfl, HB.out _ (below_drewN hb0 _)⟩
    · have h3d : decide (frm < 0) = false := by simp; omega
      have h4d : decide (til ≤ frm) = true := by simp; omega
      clear HLen hbl
      go_wp2_with (at_lookup; refine wpList_lookup_run _ rfl _ _ _ _ rfl _ _ _ rfl rfl HLK.out ?_)
      rw [HW0.out]
      go_quiet (fail)
      go_wp2_with fail
      go_ret
      exact ⟨rfl, HB.out _ (below_drewN hb0 _)⟩
    · have h3d : decide (frm < 0) = false := by simp; omega
      have h4d : decide (til ≤ frm) = false := by simp; omega
      have h5d : decide (L < til) = true := by simp; omega
      go_wp2_with (at_lookup; refine wpList_lookup_run _ rfl _ _ _ _ rfl _ _ _ rfl rfl HLK.out ?_)
      rw [HW0.out]
      have d0 := HCD.out 0 _ rfl; have d1 := HCD.out 1 _ rfl; have d2 := HCD.out 2 _ rfl; have d3 := HCD.out 3 _ rfl; have d4 := HCD.out 4 _ rfl; have d5 := HCD.out 5 _ rfl; have d6 := HCD.out 6 _ rfl
      simp only [Nat.add_zero] at d0
      clear HCD HLK HD HFD hE
      go_region_with (go_at_call 218; refine HLen.out.mono ?_; rintro e w1 ⟨rfl, hb1⟩; replace hb1 : Below (w.heap.size + 2) W0 w1 := hb0d.trans (hb1.mono (by have := hb0d.size; rw [HSZ.out] at this; exact this)))
      all_goals
        go_wp2_with fail
        go_ret
        exact ⟨rfl, HB.out _ hb1⟩
    · have h3d : decide (frm < 0) = false := by simp; omega
      have h4d : decide (til ≤ frm) = false := by simp; omega
      have h5d : decide (L < til) = false := by simp; omega
      go_wp2_with (at_lookup; refine wpList_lookup_run _ rfl _ _ _ _ rfl _ _ _ rfl rfl HLK.out ?_)
      rw [HW0.out]
      have d0 := HCD.out 0 _ rfl; have d1 := HCD.out 1 _ rfl; have d2 := HCD.out 2 _ rfl; have d3 := HCD.out 3 _ rfl; have d4 := HCD.out 4 _ rfl; have d5 := HCD.out 5 _ rfl; have d6 := HCD.out 6 _ rfl
      simp only [Nat.add_zero] at d0
      clear HCD HLK HD HFD hE
      go_region_with (go_at_call 218; refine HLen.out.mono ?_; rintro e w1 ⟨rfl, hb1⟩; replace hb1 : Below (w.heap.size + 2) W0 w1 := hb0d.trans (hb1.mono (by have := hb0d.size; rw [HSZ.out] at this; exact this)))
      all_goals
        go_wp2_with fail
        go_ret
        exact ⟨rfl, HB.out _ hb1⟩
end Go.Proofs.YtnlnmbcaongehaaGreatDoor
