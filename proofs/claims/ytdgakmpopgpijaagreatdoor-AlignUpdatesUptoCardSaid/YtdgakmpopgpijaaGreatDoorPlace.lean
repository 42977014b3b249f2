/- The contract of region.Place: its error for any region and lengths. -/
import Derived.Test.YtdgakmpopgpijaaGreatDoorList
set_option linter.unusedVariables false
namespace Go.Proofs.YtdgakmpopgpijaaGreatDoor
open Go.RowKit

/-- The address leads to the numbers zs. -/
def Ints (w : World) (a : Option Addr) (zs : List Int) : Prop := SliceOf 1 (fun z => [Value.int .i64 z]) Flat w a zs
theorem Ints.later {w w' : World} {a : Option Addr} {xs : List Int} (h : Ints w a xs) (hb : Below w.heap.size w w') : Ints w' a xs := SliceOf.keeps Flat.keeps w w' a xs hb h

def placeFrom (width : Int) : List Int → Int
  | [] => 0
  | n :: l => if n < 0 then 2 else if width < n then 11 else placeFrom width l
/-- The error of placing rows of some lengths in a region. -/
def placeErr (x : Reg) (zs : List Int) : Int := if (!usableB x) = true then 1 else if x.height < zs.length then 9 else placeFrom x.width zs

theorem placeFrom_at (width : Int) (zs : List Int) (k : Nat) (z : Int) (hz : zs[k]? = some z) : placeFrom width (zs.drop k) = if z < 0 then 2 else if width < z then 11 else placeFrom width (zs.drop (k + 1)) := by
  have hk : k < zs.length := (List.getElem?_eq_some_iff.1 hz).1
  have e : zs[k] = z := (List.getElem?_eq_some_iff.1 hz).2
  rw [List.drop_eq_getElem_cons hk, e, placeFrom]

theorem Tryz.info145 : (Tryz.prog.info? 145).map (fun i => (i.zero, i.size, i.bytes)) = some (some (.agg #[.int .i64 0, .int .i64 0, .int .i64 0]), 3, 24) := by kernel_rfl

/-- The cells of a new block. -/
theorem cells_new (w : World) (cs : Array Value) (t : TypeId) : ∀ j u, cs.toList[j]? = some u → (w.alloc (.cells cs t)).cell? ((⟨w.heap.size, 0, none⟩ : Addr).add j) = some u := by
  intro j u hu
  have hadd : (⟨w.heap.size, 0, none⟩ : Addr).add j = ⟨w.heap.size, j, none⟩ := by unfold Addr.add; split <;> simp_all
  rw [hadd, cell_of_row _ _ j cs t (0, 0) (heap_alloc_last w _)]
  simpa using hu

/-- append(out, x): x a struct, laid in a new block. -/
theorem wpList_append_new {P : Program} (w : World) (cs : Array Value) {ops : Array Oper} {rest : List Oper} {o : Oper} {a : Act} {Q : Exit → Act → World → Prop} (hgd : o.guard = none) (s x : Operand) (t : TypeId)
    (ho : o.op = .call { callee := .builtin .append, args := #[s, x], argTypes := #[t, t] })
    (base : Nat) (e : TypeId) (i : TypeInfo) (z : Value) (size bytes : Nat) (ht : P.underlying t = some (.slice e)) (hi : P.info? e = some i) (hz : i.zero = some z)
    (hsize : i.size = size) (hby : i.bytes = bytes) (hzs : z.cells.size = size) (hsz : 0 < size)
    (v : Value) (n : Nat) (xs : List Value) (hs : a.eval s = v) (hown : w.ownsRow base e size v n xs) (g : Nat) (hx : a.eval x = .slice (some ⟨g, 0, none⟩) 1 1) (hg : g = w.heap.size)
    (hcs : cs.size = size) (h1 : ∀ u ∈ cs.toList, u.oneCell' = true) (h63 : n + 1 ≤ maxLen) (hbytes : (n + 1) * bytes ≤ 140737488355328) (hbase : base ≤ w.heap.size)
    (h : ∀ v' w2, w2.ownsRow base e size v' (n + 1) (xs ++ cs.toList) → (w.alloc (.cells cs e)).grownBy w2 v.ownBlock → wpList P ops Q rest (a.put o.dst v') w2) : wpList P ops Q (o :: rest) a (w.alloc (.cells cs e)) := by
  subst hg
  refine wpList_append_own _ hgd s x t ho base e i z size bytes ht hi hz hsize hby hzs hsz v n xs hs (hown.alloc _) ⟨w.heap.size, 0, none⟩ 1 1 cs.toList hx (by simpa using hcs) (cells_new w cs e) h1 h63 hbytes (by simp; omega) ?_
  intro v' w2 h2 h3 _
  exact h v' w2 h2 h3

def PlacePost (E : Int) (w : World) (e : Ending) (w' : World) : Prop := ∃ v, e = .returned (.tuple #[v, .int .i64 E]) ∧ Below w.heap.size w w'

theorem ret_two {k : IntKind} {v : Value} {a b : Int} (h : a = b) : Ending.returned (.tuple #[v, .int k a]) = .returned (.tuple #[v, .int k b]) := by rw [h]

/-- Place's relation: the row that grows; all that was there. -/
def Grow3 (b : Nat) (W0 : World) (k : Nat) (v : Value) (wr : World) : Prop := (∃ xs, wr.ownsRow b 145 3 v k xs) ∧ Below b W0 wr

theorem Grow3.step {b k : Nat} {W0 wr w2 : World} {v v' : Value} {o o' : Obj} {xs : List Value} (h : Grow3 b W0 k v wr) (hW : b ≤ W0.heap.size) (hown : w2.ownsRow b 145 3 v' (k + 1) xs)
    (hg : ((wr.alloc o).alloc o').grownBy w2 v.ownBlock) : Grow3 b W0 (k + 1) v' w2 := by
  obtain ⟨⟨ys, ho⟩, hb⟩ := h
  have h1 : b ≤ wr.heap.size := Nat.le_trans hW hb.size
  exact ⟨⟨xs, hown⟩, ((hb.alloc h1 o).alloc (by simp; omega) o').grown hg (by simp; omega) (fun j hj => (ho.lt j hj).1)⟩

set_option maxRecDepth 100000 in
set_option maxHeartbeats 6400000 in
theorem place_false (x : Reg) (a : Option Addr) (cap : Nat) (zs : List Int) (w : World) (hf : x.fits) (hI : Ints w a zs) (hl : zs.length ≤ 4000000) (hB : x.bottom = false) :
    Calls Tryz.prog 70 #[.agg x.enc.toArray, .slice a zs.length cap] w (PlacePost (placeErr x zs) w) := by
  have hU := fun w => usable_calls x w hf
  generalize hG : placeErr x zs = G
  unfold placeErr at hG
  obtain ⟨nm, top, height, left, width, align, bottom⟩ := x
  obtain ⟨_, hT, hH, hL, hW, ha0, ha1⟩ := hf
  simp only [i64] at hT hH hL hW ha0 ha1
  simp only at hB
  subst hB
  generalize usableB ⟨nm, top, height, left, width, align, false⟩ = U at *
  simp only [Reg.enc] at hU hG ⊢
  have HU := Lib.hid hU
  have HG := Lib.hid hG
  clear hU hG
  rcases (show U = false ∨ (U = true ∧ height < zs.length ∧ decide (height < (zs.length : Int)) = true) ∨ (U = true ∧ zs.length ≤ height ∧ decide (height < (zs.length : Int)) = false) by cases U <;> simp <;> omega) with rfl | ⟨rfl, hlh, hld⟩ | ⟨rfl, hlh, hld⟩
  all_goals
    generalize hcs : #[Value.string nm, .int .i64 top, .int .i64 height, .int .i64 left, .int .i64 width, .int .u8 align, .bool false] = cs
    have f0 := box_cell w cs 101 0 (.string nm) (by rw [← hcs]; rfl)
    have f1 := box_cell w cs 101 1 (.int .i64 top) (by rw [← hcs]; rfl)
    have f2 := box_cell w cs 101 2 (.int .i64 height) (by rw [← hcs]; rfl)
    have f3 := box_cell w cs 101 3 (.int .i64 left) (by rw [← hcs]; rfl)
    have f4 := box_cell w cs 101 4 (.int .i64 width) (by rw [← hcs]; rfl)
    have f5 := box_cell w cs 101 5 (.int .u8 align) (by rw [← hcs]; rfl)
    have f6 := box_cell w cs 101 6 (.bool false) (by rw [← hcs]; rfl)
    have HB := Lib.hid (fun (w1 : World) (h : Below (w.heap.size + 1) (w.alloc (.cells cs 101)) w1) => box_below h)
    have hb0 : Below (w.heap.size + 1) (w.alloc (.cells cs 101)) (w.alloc (.cells cs 101)) := Below.refl _ _
    have hsz : (w.alloc (.cells cs 101)).heap.size = w.heap.size + 1 := World.size_alloc _ _
    generalize hW0 : w.alloc (.cells cs 101) = W0 at *
    have HW0 := Lib.hid hW0
    have HSZ := Lib.hid hsz
    clear hW0 hsz
    go_enter Tryz.func70, Tryz.ntmps70
    subst hcs
    go_wp2_with fail
    rw [HW0.out]
    refine (HU.out _).mono ?_
    rintro e w1 ⟨rfl, hb1⟩
    rw [HSZ.out] at hb1
    clear HW0
    go_wp2_with fail
  · go_ret2
    exact ⟨.slice none 0 0, ret_two (by rw [← HG.out, if_pos (by decide)]), HB.out _ hb1⟩
  · go_ret2
    exact ⟨.slice none 0 0, ret_two (by rw [← HG.out, if_neg (by decide), if_pos hlh]), HB.out _ hb1⟩
  · obtain ⟨i0, hi, hz0, hz1, hz2⟩ := info_parts Tryz.info145
    have HI := Lib.hid hi; have H0 := Lib.hid hz0; have H1 := Lib.hid hz1; have H2 := Lib.hid hz2
    clear hi hz0 hz1 hz2
    have hp0 : placeFrom width (zs.drop 0) = G := by
      rw [List.drop_zero, ← HG.out, if_neg (by decide), if_neg (by omega)]
    have HP0 := Lib.hid hp0
    clear hp0 HG
    go_loopw [7, 34] (fun v i wr => ∃ k : Nat, k ≤ zs.length ∧ i = .int .i64 k ∧ placeFrom width (zs.drop k) = G ∧ Grow3 (w.heap.size + 1) W0 k v wr) (fun _ i _ => zs.length - (intOf i).toNat)
    case atStart => exact ⟨0, by omega, rfl, HP0.out, ⟨[], World.ownsRow_nil _ _ _ _⟩, hb1⟩
    case round =>
      obtain ⟨k, hk, rfl, hp, hGr⟩ := hrel
      have hbr := hGr.2
      have hlt0 : w.heap.size < wr.heap.size := by have := hbr.size; rw [HSZ.out] at this; omega
      by_cases hlt : k < zs.length
      · obtain ⟨b, off, z, rfl, hbl, hz, hc, _⟩ := (hI.later (HB.out _ hbr)).at_ hlt
        have d0 := hc 0 _ rfl
        simp only [Nat.add_zero, Nat.mul_one] at d0
        rw [placeFrom_at width zs k z hz] at hp
        have HP := Lib.hid hp
        clear hp hc hz HP0 hI
        rcases (show z < 0 ∨ (0 ≤ z ∧ width < z) ∨ (0 ≤ z ∧ z ≤ width) by omega) with h | ⟨h, h'⟩ | ⟨h, h'⟩
        · go_wp2_with fail
          go_ret2
          exact ⟨.slice none 0 0, ret_two (by rw [← HP.out, if_pos h]), HB.out _ hbr⟩
        · go_wp2_with fail
          go_ret2
          exact ⟨.slice none 0 0, ret_two (by rw [← HP.out, if_neg (by omega), if_pos h']), HB.out _ hbr⟩
        · rw [if_neg (by omega), if_neg (by omega)] at HP
          have hal : (align = 3 ∨ align = 2 ∨ ((align == 3) = false ∧ (align == 2) = false)) := by
            by_cases h3 : align = 3
            · exact .inl h3
            · by_cases h2 : align = 2
              · exact .inr (.inl h2)
              · exact .inr (.inr ⟨by simpa using h3, by simpa using h2⟩)
          rcases hal with rfl | rfl | ⟨e3, e2⟩
          all_goals
            obtain ⟨xs, hown⟩ := hGr.1
            go_wp2_with (at_builtin; refine wpList_append_new _ _ rfl (.tmp 75) (.tmp 77) 108 rfl (w.heap.size + 1) 145 i0 _ 3 24 Tryz.underlying108 HI.out H0.out H1.out H2.out rfl (by decide) _ _ _ rfl (hown.alloc _) _ rfl (by simp) rfl ?h1 ?h63 ?hb ?hbase ?_)
            case h1 => exact ⟨rfl, rfl, rfl⟩
            case h63 => unfold maxLen; omega
            case hb => omega
            case hbase => simp; omega
            intro v' w2 hown' hgrow
            have R := Grow3.step hGr (by rw [HSZ.out]; omega) hown' hgrow
            clear hown' hgrow hGr hown
            go_wp2_with fail
            go_roundw
            case rel => exact ⟨k + 1, by omega, by go_num, HP.out, R⟩
            case measure => simp [intOf]; omega
      · obtain rfl : k = zs.length := by omega
        rw [List.drop_length] at hp
        have HP := Lib.hid hp
        clear hp HP0
        go_wp2_with fail
        go_ret2
        exact ⟨_, ret_two (by rw [← HP.out]; rfl), HB.out _ hbr⟩

set_option maxRecDepth 100000 in
set_option maxHeartbeats 6400000 in
theorem place_true (x : Reg) (a : Option Addr) (cap : Nat) (zs : List Int) (w : World) (hf : x.fits) (hI : Ints w a zs) (hl : zs.length ≤ 4000000) (hB : x.bottom = true) :
    Calls Tryz.prog 70 #[.agg x.enc.toArray, .slice a zs.length cap] w (PlacePost (placeErr x zs) w) := by
  have hU := fun w => usable_calls x w hf
  generalize hG : placeErr x zs = G
  unfold placeErr at hG
  obtain ⟨nm, top, height, left, width, align, bottom⟩ := x
  obtain ⟨_, hT, hH, hL, hW, ha0, ha1⟩ := hf
  simp only [i64] at hT hH hL hW ha0 ha1
  simp only at hB
  subst hB
  generalize usableB ⟨nm, top, height, left, width, align, true⟩ = U at *
  simp only [Reg.enc] at hU hG ⊢
  have HU := Lib.hid hU
  have HG := Lib.hid hG
  clear hU hG
  rcases (show U = false ∨ (U = true ∧ height < zs.length ∧ decide (height < (zs.length : Int)) = true) ∨ (U = true ∧ zs.length ≤ height ∧ decide (height < (zs.length : Int)) = false) by cases U <;> simp <;> omega) with rfl | ⟨rfl, hlh, hld⟩ | ⟨rfl, hlh, hld⟩
  all_goals
    generalize hcs : #[Value.string nm, .int .i64 top, .int .i64 height, .int .i64 left, .int .i64 width, .int .u8 align, .bool true] = cs
    have f0 := box_cell w cs 101 0 (.string nm) (by rw [← hcs]; rfl)
    have f1 := box_cell w cs 101 1 (.int .i64 top) (by rw [← hcs]; rfl)
    have f2 := box_cell w cs 101 2 (.int .i64 height) (by rw [← hcs]; rfl)
    have f3 := box_cell w cs 101 3 (.int .i64 left) (by rw [← hcs]; rfl)
    have f4 := box_cell w cs 101 4 (.int .i64 width) (by rw [← hcs]; rfl)
    have f5 := box_cell w cs 101 5 (.int .u8 align) (by rw [← hcs]; rfl)
    have f6 := box_cell w cs 101 6 (.bool true) (by rw [← hcs]; rfl)
    have HB := Lib.hid (fun (w1 : World) (h : Below (w.heap.size + 1) (w.alloc (.cells cs 101)) w1) => box_below h)
    have hb0 : Below (w.heap.size + 1) (w.alloc (.cells cs 101)) (w.alloc (.cells cs 101)) := Below.refl _ _
    have hsz : (w.alloc (.cells cs 101)).heap.size = w.heap.size + 1 := World.size_alloc _ _
    generalize hW0 : w.alloc (.cells cs 101) = W0 at *
    have HW0 := Lib.hid hW0
    have HSZ := Lib.hid hsz
    clear hW0 hsz
    go_enter Tryz.func70, Tryz.ntmps70
    subst hcs
    go_wp2_with fail
    rw [HW0.out]
    refine (HU.out _).mono ?_
    rintro e w1 ⟨rfl, hb1⟩
    rw [HSZ.out] at hb1
    clear HW0
    go_wp2_with fail
  · go_ret2
    exact ⟨.slice none 0 0, ret_two (by rw [← HG.out, if_pos (by decide)]), HB.out _ hb1⟩
  · go_ret2
    exact ⟨.slice none 0 0, ret_two (by rw [← HG.out, if_neg (by decide), if_pos hlh]), HB.out _ hb1⟩
  · obtain ⟨i0, hi, hz0, hz1, hz2⟩ := info_parts Tryz.info145
    have HI := Lib.hid hi; have H0 := Lib.hid hz0; have H1 := Lib.hid hz1; have H2 := Lib.hid hz2
    clear hi hz0 hz1 hz2
    have hp0 : placeFrom width (zs.drop 0) = G := by
      rw [List.drop_zero, ← HG.out, if_neg (by decide), if_neg (by omega)]
    have HP0 := Lib.hid hp0
    clear hp0 HG
    go_loopw [7, 34] (fun v i wr => ∃ k : Nat, k ≤ zs.length ∧ i = .int .i64 k ∧ placeFrom width (zs.drop k) = G ∧ Grow3 (w.heap.size + 1) W0 k v wr) (fun _ i _ => zs.length - (intOf i).toNat)
    case atStart => exact ⟨0, by omega, rfl, HP0.out, ⟨[], World.ownsRow_nil _ _ _ _⟩, hb1⟩
    case round =>
      obtain ⟨k, hk, rfl, hp, hGr⟩ := hrel
      have hbr := hGr.2
      have hlt0 : w.heap.size < wr.heap.size := by have := hbr.size; rw [HSZ.out] at this; omega
      by_cases hlt : k < zs.length
      · obtain ⟨b, off, z, rfl, hbl, hz, hc, _⟩ := (hI.later (HB.out _ hbr)).at_ hlt
        have d0 := hc 0 _ rfl
        simp only [Nat.add_zero, Nat.mul_one] at d0
        rw [placeFrom_at width zs k z hz] at hp
        have HP := Lib.hid hp
        clear hp hc hz HP0 hI
        rcases (show z < 0 ∨ (0 ≤ z ∧ width < z) ∨ (0 ≤ z ∧ z ≤ width) by omega) with h | ⟨h, h'⟩ | ⟨h, h'⟩
        · go_wp2_with fail
          go_ret2
          exact ⟨.slice none 0 0, ret_two (by rw [← HP.out, if_pos h]), HB.out _ hbr⟩
        · go_wp2_with fail
          go_ret2
          exact ⟨.slice none 0 0, ret_two (by rw [← HP.out, if_neg (by omega), if_pos h']), HB.out _ hbr⟩
        · rw [if_neg (by omega), if_neg (by omega)] at HP
          have hal : (align = 3 ∨ align = 2 ∨ ((align == 3) = false ∧ (align == 2) = false)) := by
            by_cases h3 : align = 3
            · exact .inl h3
            · by_cases h2 : align = 2
              · exact .inr (.inl h2)
              · exact .inr (.inr ⟨by simpa using h3, by simpa using h2⟩)
          rcases hal with rfl | rfl | ⟨e3, e2⟩
          all_goals
            obtain ⟨xs, hown⟩ := hGr.1
            go_wp2_with (at_builtin; refine wpList_append_new _ _ rfl (.tmp 75) (.tmp 77) 108 rfl (w.heap.size + 1) 145 i0 _ 3 24 Tryz.underlying108 HI.out H0.out H1.out H2.out rfl (by decide) _ _ _ rfl (hown.alloc _) _ rfl (by simp) rfl ?h1 ?h63 ?hb ?hbase ?_)
            case h1 => exact ⟨rfl, rfl, rfl⟩
            case h63 => unfold maxLen; omega
            case hb => omega
            case hbase => simp; omega
            intro v' w2 hown' hgrow
            have R := Grow3.step hGr (by rw [HSZ.out]; omega) hown' hgrow
            clear hown' hgrow hGr hown
            go_wp2_with fail
            go_roundw
            case rel => exact ⟨k + 1, by omega, by go_num, HP.out, R⟩
            case measure => simp [intOf]; omega
      · obtain rfl : k = zs.length := by omega
        rw [List.drop_length] at hp
        have HP := Lib.hid hp
        clear hp HP0
        go_wp2_with fail
        go_ret2
        exact ⟨_, ret_two (by rw [← HP.out]; rfl), HB.out _ hbr⟩

theorem place_calls2 (x : Reg) (a : Option Addr) (cap : Nat) (zs : List Int) (w : World) (hf : x.fits) (hI : Ints w a zs) (hl : zs.length ≤ 4000000) :
    Calls Tryz.prog 70 #[.agg x.enc.toArray, .slice a zs.length cap] w (PlacePost (placeErr x zs) w) := by
  cases hB : x.bottom
  · exact place_false x a cap zs w hf hI hl hB
  · exact place_true x a cap zs w hf hI hl hB

end Go.Proofs.YtdgakmpopgpijaaGreatDoor
