/- The contract of diff.changed at regions, events, comments. (printed by gen_changed.py) Documents: the blocks in which they lie, their contents, and one event of a row written anew. The contract of diff.allowed. (printed by gen_apply.py) Plain laws on rotations and merges in place: what slices.SortStableFunc's helpers do with a row. -/
import Derived.Deep.RegionHeld3
import Derived.Deep.DeepCutAuto
import Derived.Deep.CutBlock
import Derived.Deep.DrawnRows
import Derived.Sort.LotA
import Derived.Test.YtnlnmbcaongehaaGreatDoorBase10
import Derived.Test.YtnlnmbcaongehaaGreatDoorBase11
import Derived.Test.YtnlnmbcaongehaaGreatDoorBase06
set_option linter.unusedVariables false
set_option linter.unusedSimpArgs false
namespace Go.Proofs.YtnlnmbcaongehaaGreatDoor
open Go.RowKit
attribute [local go_sem ↓] Go.wp_at_zero Go.wp_at_succ
/-- How many elements at the head have a property. -/
def rankOf {α : Type} (p : α → Bool) : List α → Nat
  | [] => 0
  | y :: l => if p y = true then rankOf p l + 1 else 0
theorem rankOf_le {α : Type} (p : α → Bool) : ∀ l : List α, rankOf p l ≤ l.length
  | [] => by simp [rankOf]
  | y :: l => by
    have := rankOf_le p l
    unfold rankOf
    split
    · simp; omega
    · simp
/-- What lies behind diff.changed: the list with the element at k taken out, or x taken in. -/
def changedL {α : Type} (ad gn : Bool) (k : Nat) (p : α → Bool) (xs : List α) (x : α) : List α :=
  if gn = true then (if ad = true then xs else dropAt xs k) else insAt (if ad = true then xs else dropAt xs k) (rankOf p (if ad = true then xs else dropAt xs k)) x
theorem dropAt_le {α : Type} (xs : List α) (k : Nat) : (dropAt xs k).length ≤ xs.length := by
  unfold dropAt
  simp
  omega
/-- The list, in memory of the call's own. -/
def ListPost {α : Type} (K : Nat) (enc : α → List Value) (ys : List α) (w : World) (e : Ending) (w' : World) : Prop := ∃ a c, e = .returned (.slice a ys.length c) ∧ SliceOf K enc Flat w' a ys ∧ (∀ ad, a = some ad → w.heap.size ≤ ad.block) ∧ Below w.heap.size w w'
theorem owns_mono {base base' e K n : Nat} {v : Value} {xs : List Value} {w : World} (h : w.ownsRow base e K v n xs) (hb : base' ≤ base) : w.ownsRow base' e K v n xs := ⟨h.1, h.2.imp id (fun ⟨g, cap, cur, q1, q2, q3⟩ => ⟨g, cap, cur, q1, by omega, q3⟩)⟩
theorem owned_some {base e K : Nat} {v : Value} {n : Nat} {xs : List Value} {w : World} (h : w.ownsRow base e K v n xs) (h0 : 0 < n) : ∃ g cap, v = .slice (some ⟨g, 0, none⟩) n cap ∧ base ≤ g := by
  rcases h.2 with ⟨_, h1⟩ | ⟨g, cap, cur, h1, h2, _⟩
  · omega
  · exact ⟨g, cap, h1, h2⟩
theorem box_one {α : Type} {K T : Nat} {enc : α → List Value} (hk : ∀ x, (enc x).length = K) {w : World} {g : Nat} {x : α} (h : w.heap[g]? = some (.cells (enc x).toArray T (0, 0))) : SliceOf K enc Flat w (some ⟨g, 0, none⟩) [x] := by
  refine sliceOf_flat hk (Array.getElem?_eq_some_iff.1 h).1 fun j u hu => ?_
  simp only [List.flatMap_cons, List.flatMap_nil, List.append_nil] at hu
  rw [Nat.zero_add, cell_of_row w g j _ T (0, 0) h]
  simpa using hu
/-- slices.Insert of one element, whatever the list is. -/
theorem insertReg_calls (base : Nat) (v : Value) (xs : List Reg) (i : Nat) (x : Reg) (g vc : Nat) (w : World) (h : w.ownsRow base 44 7 v xs.length (xs.flatMap Reg.enc)) (hv : w.heap[g]? = some (.cells x.enc.toArray 44 (0, 0))) (hgb : v.ownBlock ≠ some g) (hi : i ≤ xs.length) (hl : xs.length ≤ 8000000) (hbw : base ≤ w.heap.size) :
    Calls Tryz.prog 184 #[v, .int .i64 i, .slice (some ⟨g, 0, none⟩) 1 vc] w (InsPost 7 Reg.enc base (insAt xs i x) w) := by
  have h1 := box_one (K := 7) (enc := Reg.enc) (fun _ => rfl) hv
  rcases h.2 with ⟨rfl, h0⟩ | ⟨b, cap, cur, rfl, hb', hg', hc, hm, _⟩
  · obtain rfl := List.eq_nil_of_length_eq_zero h0
    obtain rfl : i = 0 := by simpa using hi
    exact insertReg_nil base x g vc w h1 hbw
  · by_cases hi' : i < xs.length
    · by_cases hr : xs.length + 1 ≤ cap
      · exact insertReg_shift base b i g cap vc xs x w h hv hi' hr (fun e => hgb (by rw [e]; rfl)) hl hbw
      · exact insertReg_grow base b i g cap vc xs x w h hv hi' (by omega) hl hbw
    · obtain rfl : i = xs.length := by omega
      rw [insAt_end]
      exact insertReg_end base b cap xs x g vc w h h1 hl hbw
set_option maxRecDepth 100000 in
set_option maxHeartbeats 6400000 in
theorem changedReg_calls (a : Option Addr) (cap : Nat) (xs : List Reg) (c : Chg) (k : Nat) (i : Int) (x : Reg) (w : World) (h : SliceOf 7 Reg.enc Flat w a xs) (hk : c.added = false → k < xs.length ∧ i = (k : Int)) (hg : c.added = true → c.gone = false) (hl : xs.length ≤ 4000000) :
    Calls Tryz.prog 110 #[.slice a xs.length cap, .agg c.enc.toArray, .int .i64 i, .agg x.enc.toArray, .func (.func 35) #[] #[]] w (ListPost 7 Reg.enc (changedL c.added c.gone k (fun y : Reg => Op.bytesLess y.name.toList x.name.toList) xs x) w) := by
  have HQ := Lib.hid (fun (ys : List Reg) (a' : Option Addr) (c' : Nat) (w' : World) (e : ys = changedL c.added c.gone k (fun y : Reg => Op.bytesLess y.name.toList x.name.toList) xs x) (h1 : SliceOf 7 Reg.enc Flat w' a' ys) (h2 : ∀ ad, a' = some ad → w.heap.size ≤ ad.block) (h3 : Below w.heap.size w w') => (show ListPost 7 Reg.enc (changedL c.added c.gone k (fun y : Reg => Op.bytesLess y.name.toList x.name.toList) xs x) w (.returned (.slice a' ys.length c')) w' from e ▸ ⟨a', c', rfl, h1, h2, h3⟩))
  generalize ListPost 7 Reg.enc (changedL c.added c.gone k (fun y : Reg => Op.bytesLess y.name.toList x.name.toList) xs x) w = Q at *
  unfold changedL at HQ
  have HSL := Lib.hid (fun (w1 : World) (hb : Below w.heap.size w w1) => SliceOf.keeps Flat.keeps _ _ _ _ hb h)
  have HKX := Lib.hid (fun (w1 : World) => key35_calls x w1)
  obtain ⟨L1, hL1⟩ : ∃ L1, L1 = if c.added = true then xs else dropAt xs k := ⟨_, rfl⟩
  have hL1l : L1.length ≤ 4000000 := by
    rw [hL1]
    split
    · exact hl
    · have := dropAt_le xs k
      omega
  obtain ⟨RK, hRK⟩ : ∃ RK, RK = rankOf (fun y : Reg => Op.bytesLess y.name.toList x.name.toList) L1 := ⟨_, rfl⟩
  have hRKl : RK ≤ L1.length := hRK ▸ rankOf_le _ _
  rw [← hL1, ← hRK] at HQ
  obtain ⟨sec, cid, cname, ad, gn, oh, nh, rg, nr, oe, ne, oc, nc⟩ := c
  simp only at hk hg hL1 HQ
  generalize hcs : Chg.enc _ = cl
  have hc3 : cl.toArray[3]? = some (.bool ad) := by rw [← hcs]; rfl
  have hc4 : cl.toArray[4]? = some (.bool gn) := by rw [← hcs]; rfl
  clear hcs
  obtain ⟨cs, hcs⟩ : ∃ cs, cs = cl.toArray := ⟨_, rfl⟩
  rw [← hcs] at hc3 hc4 ⊢
  clear hcs
  generalize hqs : x.enc.toArray = qs
  have HXE := Lib.hid hqs
  have HB := Lib.hid (fun (w1 : World) (h : Below (w.heap.size + 2) ((w.alloc (.cells cs 54)).alloc (.cells qs 44)) w1) => box2_below h)
  have f3 := box2_fst w cs qs 54 44 3 _ hc3
  have f4 := box2_fst w cs qs 54 44 4 _ hc4
  have hb0 : Below (w.heap.size + 2) ((w.alloc (.cells cs 54)).alloc (.cells qs 44)) ((w.alloc (.cells cs 54)).alloc (.cells qs 44)) := Below.refl _ _
  have hsz : ((w.alloc (.cells cs 54)).alloc (.cells qs 44)).heap.size = w.heap.size + 2 := by simp
  have hk2 : ((w.alloc (.cells cs 54)).alloc (.cells qs 44)).heap[w.heap.size + 1]? = some (.cells qs 44 (0, 0)) := by
    have := heap_alloc_last (w.alloc (.cells cs 54)) (.cells qs 44)
    rwa [World.size_alloc] at this
  generalize hW0 : (w.alloc (.cells cs 54)).alloc (.cells qs 44) = W0 at *
  have HW0 := Lib.hid hW0
  have HSZ := Lib.hid hsz
  have HT0 := Lib.hid (fun (w2 w3 : World) (h : Below (w.heap.size + 2) W0 w2) (h3 : Below w2.heap.size w2 w3) => (h.trans (h3.mono (by have := h.size; rw [HSZ.out] at this; exact this)) : Below (w.heap.size + 2) W0 w3))
  have HLT := Lib.hid (fun (w2 : World) (h : Below (w.heap.size + 2) W0 w2) => (show w.heap.size + 2 ≤ w2.heap.size by have := h.size; rw [HSZ.out] at this; exact this))
  have bx : ∀ (w' : World), Below (w.heap.size + 2) W0 w' → ∀ (j : Nat), w'.cell? ⟨w.heap.size + 1, j, none⟩ = qs[j]? := fun w' h j => cell_of_row _ _ j qs 44 (0, 0) ((h.block _ (by omega)).trans hk2)
  have HL1 := Lib.hid hL1
  have HRK := Lib.hid hRK
  have HHK := Lib.hid hk
  have HHG := Lib.hid hg
  clear hW0 hsz hk2 h hL1 hRK hk hg hc3 hc4
  obtain ⟨xnm, xtop, xheight, xleft, xwidth, xalign, xbottom⟩ := x
  simp only [Reg.enc] at hqs HKX
  simp only at HRK
  go_enter Tryz.func110, Tryz.ntmps110
  subst hqs
  go_upto_region 1 with fail
  rw [HW0.out]
  go_upto_if 14 with fail
  go_cut [0] (fun s0 wx => ∃ a1 c1, s0 = .slice a1 L1.length c1 ∧ SliceOf 7 Reg.enc Flat wx a1 L1 ∧ (gn = true → ∀ ad, a1 = some ad → w.heap.size ≤ ad.block) ∧ Below (w.heap.size + 2) W0 wx)
  case first =>
    cases ad with
    | true =>
      have HG := Lib.hid (HHG.out rfl)
      have hxl : L1 = xs := by rw [HL1.out]; rfl
      subst hxl
      go_wp2_with fail
      go_meet
      exact ⟨_, _, rfl, HSL.out _ (HB.out _ hb0), (fun h => by rw [HG.out] at h; cases h), hb0⟩
    | false =>
      obtain ⟨hkl, rfl⟩ := HHK.out rfl
      have hxl : L1 = dropAt xs k := by rw [HL1.out]; rfl
      have hdl : L1.length = xs.length - 1 := by rw [hxl]; exact dropAt_len xs k hkl
      have HC := Lib.hid (fun (w1 : World) (h : Below (w.heap.size + 2) W0 w1) => clone106_calls a cap xs w1 (HSL.out _ (HB.out _ h)) hl)
      go_wp2_with fail
      refine (HC.out _ hb0).mono ?_
      rintro e w1 ⟨v, rfl, ho, hb1⟩
      obtain ⟨g, cp, rfl, hgb⟩ := owned_some ho (by omega)
      have hc1 := HT0.out _ _ hb0 hb1
      have HD := Lib.hid (deleteReg_calls W0.heap.size g cp k xs w1 ho hkl hl)
      clear hb1 HC ho
      go_wp2_with fail
      refine HD.out.mono ?_
      rintro e w2 ⟨rfl, hS, hb2⟩
      have hc2 : Below (w.heap.size + 2) W0 w2 := hc1.trans (hb2.mono (by rw [HSZ.out]; exact Nat.le_refl _))
      have HS := Lib.hid hS
      clear hb2 HD hS
      go_wp2_with fail
      go_meet
      refine ⟨_, _, by rw [hdl], by rw [hxl]; exact HS.out, fun _ ad e => ?_, hc2⟩
      obtain rfl := Option.some.inj e
      have := HSZ.out
      simp only
      omega
  case rest =>
    obtain ⟨a1, c1, rfl, hS1, hf1, hbw⟩ := hcut
    have HS1 := Lib.hid (fun (w1 : World) (hb : Below wc.heap.size wc w1) => SliceOf.keeps Flat.keeps _ _ _ _ hb hS1)
    have HF1 := Lib.hid hf1
    have HBW := Lib.hid hbw
    clear HSL hS1 hf1
    cases gn with
    | true =>
      have HFIN := Lib.hid (HQ.out L1 a1 c1 wc rfl (HS1.out _ (Below.refl _ _)) (HF1.out rfl) (HB.out _ hbw))
      clear HQ HS1 HF1
      go_wp2_with fail
      exact HFIN.out
    | false =>
      clear HF1
      go_wp2_with fail
      go_loopw [11] (fun i wr => ∃ j : Nat, j ≤ L1.length ∧ i = .int .i64 j ∧ j + rankOf (fun y : Reg => Op.bytesLess y.name.toList xnm.toList) (L1.drop j) = RK ∧ Below wc.heap.size wc wr) (fun i _ => L1.length - (intOf i).toNat)
      case atStart => exact ⟨0, by omega, rfl, by rw [HRK.out]; simp, Below.refl _ _⟩
      case round =>
        obtain ⟨j, hj, rfl, hp, hb⟩ := hrel
        have hbW := HT0.out _ _ HBW.out hb
        have HBJ := Lib.hid hb
        have hbd : Below (w.heap.size + 2) W0 wr.drew := hbW.drew
        by_cases hlt : j < L1.length
        · obtain ⟨b, off, y, rfl, hbl, hyk, hc, _⟩ := (HS1.out _ hb).at_ hlt
          have HKY := Lib.hid (fun (w1 : World) => key35_calls y w1)
          rw [drop_at L1 j y hyk, rankOf] at hp
          have HCY := Lib.hid (fun (w1 : World) (h : Below wr.heap.size wr w1) (q : Nat) (u : Value) (e : y.enc[q]? = some u) => (h.cell (p := ⟨b, off + j * 7 + q, none⟩) hbl).trans (hc q u e))
          clear hc hyk hb
          obtain ⟨ynm, ytop, yheight, yleft, ywidth, yalign, ybottom⟩ := y
          simp only [Reg.enc] at HKY HCY
          simp only at hp

          have d0 := fun w1 h => HCY.out w1 h 0 _ rfl
          have d1 := fun w1 h => HCY.out w1 h 1 _ rfl
          have d2 := fun w1 h => HCY.out w1 h 2 _ rfl
          have d3 := fun w1 h => HCY.out w1 h 3 _ rfl
          have d4 := fun w1 h => HCY.out w1 h 4 _ rfl
          have d5 := fun w1 h => HCY.out w1 h 5 _ rfl
          have d6 := fun w1 h => HCY.out w1 h 6 _ rfl
          simp only [Nat.add_zero] at d0
          have hrd : Below wr.heap.size wr wr.drew := (Below.refl _ _).drew
          have bx2 : ∀ (w' : World), Below wr.heap.size wr w' → ∀ (q : Nat), w'.cell? ⟨w.heap.size + 1, q, none⟩ = #[.string xnm, .int .i64 xtop, .int .i64 xheight, .int .i64 xleft, .int .i64 xwidth, .int .u8 xalign, .bool xbottom][q]? := fun w' h q => bx w' (HT0.out _ _ hbW h) q
          clear HCY bx
          cases hlz : Op.bytesLess ynm.toList xnm.toList with
          | true =>
            rw [if_pos hlz] at hp
            have HP := Lib.hid hp
            clear hp
            go_upto_region 6 with fail
            go_region_held3 (fun w' => Below wr.heap.size wr w') (first | with_reducible assumption | with_reducible exact hrd) (first
              | (go_at_call 35; first | ((with_reducible refine (HKY.out _).mono ?_); rintro e w1 ⟨rfl, hy1⟩; have hw1 : Below wr.heap.size wr w1 := hrd.trans (hy1.mono hrd.size)) | ((with_reducible refine (HKX.out _).mono ?_); rintro e w2 ⟨rfl, hy2⟩; have hw2 : Below wr.heap.size wr w2 := hw1.trans (hy2.mono hw1.size))))
            go_wp2_with fail
            go_roundw
            case rel => exact ⟨j + 1, by omega, by go_num, by have := HP.out; omega, HBJ.out.trans (hw2.mono HBJ.out.size)⟩
            all_goals first | (simp [intOf]; done) | (simp [intOf]; omega)
          | false =>
            rw [if_neg (by rw [hlz]; decide)] at hp
            obtain rfl : j = RK := by omega
            clear hp
            go_upto_region 6 with fail
            go_region_held3 (fun w' => Below wr.heap.size wr w') (first | with_reducible assumption | with_reducible exact hrd) (first
              | (go_at_call 35; first | ((with_reducible refine (HKY.out _).mono ?_); rintro e w1 ⟨rfl, hy1⟩; have hw1 : Below wr.heap.size wr w1 := hrd.trans (hy1.mono hrd.size)) | ((with_reducible refine (HKX.out _).mono ?_); rintro e w2 ⟨rfl, hy2⟩; have hw2 : Below wr.heap.size wr w2 := hw1.trans (hy2.mono hw1.size))))
            have hbz := HT0.out _ _ hbW hw2
            have HBZ := Lib.hid (HBJ.out.trans (hw2.mono HBJ.out.size))
            have hwz : Below wr.heap.size wr w2 := hw2
            clear hw1 hw2 hy1 hy2
            have HCL := Lib.hid (fun (w1 : World) (h : Below w2.heap.size w2 w1) => clone106_calls _ c1 L1 w1 (HS1.out _ (HBZ.out.trans (h.mono HBZ.out.size))) hL1l)
            have hzd : Below w2.heap.size w2 w2.drew := (Below.refl _ _).drew
            have hza : ∀ o, Below w2.heap.size w2 (w2.drew.alloc o) := fun o => hzd.alloc hzd.size o
            have bx3 : ∀ (w' : World), Below w2.heap.size w2 w' → ∀ (q : Nat), w'.cell? ⟨w.heap.size + 1, q, none⟩ = #[.string xnm, .int .i64 xtop, .int .i64 xheight, .int .i64 xleft, .int .i64 xwidth, .int .u8 xalign, .bool xbottom][q]? := fun w' h q => bx2 w' (hwz.trans (h.mono hwz.size)) q
            have HBX := Lib.hid (heap_alloc_last w2.drew (.cells #[.string xnm, .int .i64 xtop, .int .i64 xheight, .int .i64 xleft, .int .i64 xwidth, .int .u8 xalign, .bool xbottom] 44))
            go_upto_region 8 with fail
            go_region_held3 (fun w' => Below w2.heap.size w2 w') (first | with_reducible assumption | with_reducible exact hzd | exact hza _ | exact h6.alloc h6.size _ | fail) (first
              | (go_at_call 106; (with_reducible refine (HCL.out _ ?_).mono ?_); assumption; rintro e w6 ⟨v6, rfl, ho6, hb6⟩; have h6 : Below w2.heap.size w2 w6 := (by assumption : Below w2.heap.size w2 _).trans (hb6.mono (by first | exact hzd.size | exact (hza _).size)); have HI2 := Lib.hid (insertReg_calls w2.heap.size v6 L1 j (⟨xnm, xtop, xheight, xleft, xwidth, xalign, xbottom⟩ : Reg) w6.heap.size 1 (w6.alloc (.cells #[.string xnm, .int .i64 xtop, .int .i64 xheight, .int .i64 xleft, .int .i64 xwidth, .int .u8 xalign, .bool xbottom] 44)) ((owns_mono ho6 (by first | exact hzd.size | exact (hza _).size)).alloc _) (heap_alloc_last w6 _) (fun e => by have := (ho6.lt _ e).2; omega) (by omega) (by omega) (h6.alloc h6.size _).size); (first | (have HI1 := Lib.hid (insertReg_calls w2.heap.size v6 L1 j (⟨xnm, xtop, xheight, xleft, xwidth, xalign, xbottom⟩ : Reg) w2.heap.size 1 w6 (owns_mono ho6 (hza _).size) ((hb6.block w2.heap.size (by simp)).trans HBX.out) (fun e => by have := (ho6.lt _ e).1; simp at this; omega) (by omega) (by omega) h6.size)) | skip); clear ho6 hb6)
              | (go_at_call 184; (first | ((with_reducible refine HI2.out.mono ?_); rintro e w8 ⟨a8, c8, rfl, hS8, hf8, hb8⟩; have h8 : Below w2.heap.size w2 w8 := (h6.alloc h6.size _).trans hb8) | ((with_reducible refine HI1.out.mono ?_); rintro e w8 ⟨a8, c8, rfl, hS8, hf8, hb8⟩; have h8 : Below w2.heap.size w2 w8 := h6.trans hb8)); have HS8 := Lib.hid hS8; have HF8 := Lib.hid hf8; clear hS8 hf8 hb8))
            all_goals
              have HFIN := Lib.hid (HQ.out (insAt L1 j (⟨xnm, xtop, xheight, xleft, xwidth, xalign, xbottom⟩ : Reg)) a8 c8 w8 (by rfl) HS8.out (fun ad e => Nat.le_trans (by have := HLT.out _ hbz; omega) (HF8.out ad e)) (HB.out _ (HT0.out _ _ hbz h8)))
              clear HQ HS8 HF8
              go_wp2_with fail
              exact HFIN.out

        · obtain rfl : j = L1.length := by omega
          rw [List.drop_length, rankOf] at hp
          obtain rfl : L1.length = RK := by omega
          clear hp
          have hkd : decide (((L1.length : Nat) : Int) < ((L1.length : Nat) : Int)) = false := by simp
          go_upto_region 6 with fail
          have HWN := Lib.hid (fun n => below_drewN hbW n)
          have HJN := Lib.hid (fun n => below_drewN HBJ.out n)
          go_quiet (fail)
          go_wp2_with fail
          generalize hwq : World.drewN wr _ = wq
          have hbz : Below (w.heap.size + 2) W0 wq := hwq ▸ HWN.out _
          have HBZ := Lib.hid (show Below wc.heap.size wc wq from hwq ▸ HJN.out _)
          clear hbW hbd HBJ hwq
          have HCL := Lib.hid (fun (w1 : World) (h : Below wq.heap.size wq w1) => clone106_calls _ c1 L1 w1 (HS1.out _ (HBZ.out.trans (h.mono HBZ.out.size))) hL1l)
          have hzd : Below wq.heap.size wq wq.drew := (Below.refl _ _).drew
          have hza : ∀ o, Below wq.heap.size wq (wq.drew.alloc o) := fun o => hzd.alloc hzd.size o
          have bx3 : ∀ (w' : World), Below wq.heap.size wq w' → ∀ (q : Nat), w'.cell? ⟨w.heap.size + 1, q, none⟩ = #[.string xnm, .int .i64 xtop, .int .i64 xheight, .int .i64 xleft, .int .i64 xwidth, .int .u8 xalign, .bool xbottom][q]? := fun w' h q => bx w' (HT0.out _ _ hbz h) q
          have HBX := Lib.hid (heap_alloc_last wq.drew (.cells #[.string xnm, .int .i64 xtop, .int .i64 xheight, .int .i64 xleft, .int .i64 xwidth, .int .u8 xalign, .bool xbottom] 44))
          go_upto_region 8 with fail
          go_region_held3 (fun w' => Below wq.heap.size wq w') (first | with_reducible assumption | with_reducible exact hzd | exact hza _ | exact h6.alloc h6.size _ | fail) (first
            | (go_at_call 106; (with_reducible refine (HCL.out _ ?_).mono ?_); assumption; rintro e w6 ⟨v6, rfl, ho6, hb6⟩; have h6 : Below wq.heap.size wq w6 := (by assumption : Below wq.heap.size wq _).trans (hb6.mono (by first | exact hzd.size | exact (hza _).size)); have HI2 := Lib.hid (insertReg_calls wq.heap.size v6 L1 L1.length (⟨xnm, xtop, xheight, xleft, xwidth, xalign, xbottom⟩ : Reg) w6.heap.size 1 (w6.alloc (.cells #[.string xnm, .int .i64 xtop, .int .i64 xheight, .int .i64 xleft, .int .i64 xwidth, .int .u8 xalign, .bool xbottom] 44)) ((owns_mono ho6 (by first | exact hzd.size | exact (hza _).size)).alloc _) (heap_alloc_last w6 _) (fun e => by have := (ho6.lt _ e).2; omega) (by omega) (by omega) (h6.alloc h6.size _).size); (first | (have HI1 := Lib.hid (insertReg_calls wq.heap.size v6 L1 L1.length (⟨xnm, xtop, xheight, xleft, xwidth, xalign, xbottom⟩ : Reg) wq.heap.size 1 w6 (owns_mono ho6 (hza _).size) ((hb6.block wq.heap.size (by simp)).trans HBX.out) (fun e => by have := (ho6.lt _ e).1; simp at this; omega) (by omega) (by omega) h6.size)) | skip); clear ho6 hb6)
            | (go_at_call 184; (first | ((with_reducible refine HI2.out.mono ?_); rintro e w8 ⟨a8, c8, rfl, hS8, hf8, hb8⟩; have h8 : Below wq.heap.size wq w8 := (h6.alloc h6.size _).trans hb8) | ((with_reducible refine HI1.out.mono ?_); rintro e w8 ⟨a8, c8, rfl, hS8, hf8, hb8⟩; have h8 : Below wq.heap.size wq w8 := h6.trans hb8)); have HS8 := Lib.hid hS8; have HF8 := Lib.hid hf8; clear hS8 hf8 hb8))
          all_goals
            have HFIN := Lib.hid (HQ.out (insAt L1 L1.length (⟨xnm, xtop, xheight, xleft, xwidth, xalign, xbottom⟩ : Reg)) a8 c8 w8 (by rfl) HS8.out (fun ad e => Nat.le_trans (by have := HLT.out _ hbz; omega) (HF8.out ad e)) (HB.out _ (HT0.out _ _ hbz h8)))
            clear HQ HS8 HF8
            go_wp2_with fail
            exact HFIN.out
/-- slices.Insert of one element, whatever the list is. -/
theorem insertEv_calls (base : Nat) (v : Value) (xs : List Ev) (i : Nat) (x : Ev) (g vc : Nat) (w : World) (h : w.ownsRow base 50 7 v xs.length (xs.flatMap Ev.enc)) (hv : w.heap[g]? = some (.cells x.enc.toArray 50 (0, 0))) (hgb : v.ownBlock ≠ some g) (hi : i ≤ xs.length) (hl : xs.length ≤ 8000000) (hbw : base ≤ w.heap.size) :
    Calls Tryz.prog 188 #[v, .int .i64 i, .slice (some ⟨g, 0, none⟩) 1 vc] w (InsPost 7 Ev.enc base (insAt xs i x) w) := by
  have h1 := box_one (K := 7) (enc := Ev.enc) (fun _ => rfl) hv
  rcases h.2 with ⟨rfl, h0⟩ | ⟨b, cap, cur, rfl, hb', hg', hc, hm, _⟩
  · obtain rfl := List.eq_nil_of_length_eq_zero h0
    obtain rfl : i = 0 := by simpa using hi
    exact insertEv_nil base x g vc w h1 hbw
  · by_cases hi' : i < xs.length
    · by_cases hr : xs.length + 1 ≤ cap
      · exact insertEv_shift base b i g cap vc xs x w h hv hi' hr (fun e => hgb (by rw [e]; rfl)) hl hbw
      · exact insertEv_grow base b i g cap vc xs x w h hv hi' (by omega) hl hbw
    · obtain rfl : i = xs.length := by omega
      rw [insAt_end]
      exact insertEv_end base b cap xs x g vc w h h1 hl hbw
set_option maxRecDepth 100000 in
set_option maxHeartbeats 6400000 in
theorem changedEv_calls (a : Option Addr) (cap : Nat) (xs : List Ev) (c : Chg) (k : Nat) (i : Int) (x : Ev) (w : World) (h : SliceOf 7 Ev.enc Flat w a xs) (hk : c.added = false → k < xs.length ∧ i = (k : Int)) (hg : c.added = true → c.gone = false) (hl : xs.length ≤ 4000000) :
    Calls Tryz.prog 112 #[.slice a xs.length cap, .agg c.enc.toArray, .int .i64 i, .agg x.enc.toArray, .func (.func 38) #[] #[]] w (ListPost 7 Ev.enc (changedL c.added c.gone k (fun y : Ev => decide (y.id < x.id)) xs x) w) := by
  have HQ := Lib.hid (fun (ys : List Ev) (a' : Option Addr) (c' : Nat) (w' : World) (e : ys = changedL c.added c.gone k (fun y : Ev => decide (y.id < x.id)) xs x) (h1 : SliceOf 7 Ev.enc Flat w' a' ys) (h2 : ∀ ad, a' = some ad → w.heap.size ≤ ad.block) (h3 : Below w.heap.size w w') => (show ListPost 7 Ev.enc (changedL c.added c.gone k (fun y : Ev => decide (y.id < x.id)) xs x) w (.returned (.slice a' ys.length c')) w' from e ▸ ⟨a', c', rfl, h1, h2, h3⟩))
  generalize ListPost 7 Ev.enc (changedL c.added c.gone k (fun y : Ev => decide (y.id < x.id)) xs x) w = Q at *
  unfold changedL at HQ
  have HSL := Lib.hid (fun (w1 : World) (hb : Below w.heap.size w w1) => SliceOf.keeps Flat.keeps _ _ _ _ hb h)
  have HKX := Lib.hid (fun (w1 : World) => key38_calls x w1)
  obtain ⟨L1, hL1⟩ : ∃ L1, L1 = if c.added = true then xs else dropAt xs k := ⟨_, rfl⟩
  have hL1l : L1.length ≤ 4000000 := by
    rw [hL1]
    split
    · exact hl
    · have := dropAt_le xs k
      omega
  obtain ⟨RK, hRK⟩ : ∃ RK, RK = rankOf (fun y : Ev => decide (y.id < x.id)) L1 := ⟨_, rfl⟩
  have hRKl : RK ≤ L1.length := hRK ▸ rankOf_le _ _
  rw [← hL1, ← hRK] at HQ
  obtain ⟨sec, cid, cname, ad, gn, oh, nh, rg, nr, oe, ne, oc, nc⟩ := c
  simp only at hk hg hL1 HQ
  generalize hcs : Chg.enc _ = cl
  have hc3 : cl.toArray[3]? = some (.bool ad) := by rw [← hcs]; rfl
  have hc4 : cl.toArray[4]? = some (.bool gn) := by rw [← hcs]; rfl
  clear hcs
  obtain ⟨cs, hcs⟩ : ∃ cs, cs = cl.toArray := ⟨_, rfl⟩
  rw [← hcs] at hc3 hc4 ⊢
  clear hcs
  generalize hqs : x.enc.toArray = qs
  have HXE := Lib.hid hqs
  have HB := Lib.hid (fun (w1 : World) (h : Below (w.heap.size + 2) ((w.alloc (.cells cs 54)).alloc (.cells qs 50)) w1) => box2_below h)
  have f3 := box2_fst w cs qs 54 50 3 _ hc3
  have f4 := box2_fst w cs qs 54 50 4 _ hc4
  have hb0 : Below (w.heap.size + 2) ((w.alloc (.cells cs 54)).alloc (.cells qs 50)) ((w.alloc (.cells cs 54)).alloc (.cells qs 50)) := Below.refl _ _
  have hsz : ((w.alloc (.cells cs 54)).alloc (.cells qs 50)).heap.size = w.heap.size + 2 := by simp
  have hk2 : ((w.alloc (.cells cs 54)).alloc (.cells qs 50)).heap[w.heap.size + 1]? = some (.cells qs 50 (0, 0)) := by
    have := heap_alloc_last (w.alloc (.cells cs 54)) (.cells qs 50)
    rwa [World.size_alloc] at this
  generalize hW0 : (w.alloc (.cells cs 54)).alloc (.cells qs 50) = W0 at *
  have HW0 := Lib.hid hW0
  have HSZ := Lib.hid hsz
  have HT0 := Lib.hid (fun (w2 w3 : World) (h : Below (w.heap.size + 2) W0 w2) (h3 : Below w2.heap.size w2 w3) => (h.trans (h3.mono (by have := h.size; rw [HSZ.out] at this; exact this)) : Below (w.heap.size + 2) W0 w3))
  have HLT := Lib.hid (fun (w2 : World) (h : Below (w.heap.size + 2) W0 w2) => (show w.heap.size + 2 ≤ w2.heap.size by have := h.size; rw [HSZ.out] at this; exact this))
  have bx : ∀ (w' : World), Below (w.heap.size + 2) W0 w' → ∀ (j : Nat), w'.cell? ⟨w.heap.size + 1, j, none⟩ = qs[j]? := fun w' h j => cell_of_row _ _ j qs 50 (0, 0) ((h.block _ (by omega)).trans hk2)
  have HL1 := Lib.hid hL1
  have HRK := Lib.hid hRK
  have HHK := Lib.hid hk
  have HHG := Lib.hid hg
  clear hW0 hsz hk2 h hL1 hRK hk hg hc3 hc4
  obtain ⟨xid, xin, xout, xreg, xkind, xsp, xa, xc, xrows⟩ := x
  simp only [Ev.enc] at hqs HKX
  simp only at HRK
  go_enter Tryz.func112, Tryz.ntmps112
  subst hqs
  go_upto_region 1 with fail
  rw [HW0.out]
  go_upto_if 14 with fail
  go_cut [0] (fun s0 wx => ∃ a1 c1, s0 = .slice a1 L1.length c1 ∧ SliceOf 7 Ev.enc Flat wx a1 L1 ∧ (gn = true → ∀ ad, a1 = some ad → w.heap.size ≤ ad.block) ∧ Below (w.heap.size + 2) W0 wx)
  case first =>
    cases ad with
    | true =>
      have HG := Lib.hid (HHG.out rfl)
      have hxl : L1 = xs := by rw [HL1.out]; rfl
      subst hxl
      go_wp2_with fail
      go_meet
      exact ⟨_, _, rfl, HSL.out _ (HB.out _ hb0), (fun h => by rw [HG.out] at h; cases h), hb0⟩
    | false =>
      obtain ⟨hkl, rfl⟩ := HHK.out rfl
      have hxl : L1 = dropAt xs k := by rw [HL1.out]; rfl
      have hdl : L1.length = xs.length - 1 := by rw [hxl]; exact dropAt_len xs k hkl
      have HC := Lib.hid (fun (w1 : World) (h : Below (w.heap.size + 2) W0 w1) => clone108_calls a cap xs w1 (HSL.out _ (HB.out _ h)) hl)
      go_wp2_with fail
      refine (HC.out _ hb0).mono ?_
      rintro e w1 ⟨v, rfl, ho, hb1⟩
      obtain ⟨g, cp, rfl, hgb⟩ := owned_some ho (by omega)
      have hc1 := HT0.out _ _ hb0 hb1
      have HD := Lib.hid (deleteEv_calls W0.heap.size g cp k xs w1 ho hkl hl)
      clear hb1 HC ho
      go_wp2_with fail
      refine HD.out.mono ?_
      rintro e w2 ⟨rfl, hS, hb2⟩
      have hc2 : Below (w.heap.size + 2) W0 w2 := hc1.trans (hb2.mono (by rw [HSZ.out]; exact Nat.le_refl _))
      have HS := Lib.hid hS
      clear hb2 HD hS
      go_wp2_with fail
      go_meet
      refine ⟨_, _, by rw [hdl], by rw [hxl]; exact HS.out, fun _ ad e => ?_, hc2⟩
      obtain rfl := Option.some.inj e
      have := HSZ.out
      simp only
      omega
  case rest =>
    obtain ⟨a1, c1, rfl, hS1, hf1, hbw⟩ := hcut
    have HS1 := Lib.hid (fun (w1 : World) (hb : Below wc.heap.size wc w1) => SliceOf.keeps Flat.keeps _ _ _ _ hb hS1)
    have HF1 := Lib.hid hf1
    have HBW := Lib.hid hbw
    clear HSL hS1 hf1
    cases gn with
    | true =>
      have HFIN := Lib.hid (HQ.out L1 a1 c1 wc rfl (HS1.out _ (Below.refl _ _)) (HF1.out rfl) (HB.out _ hbw))
      clear HQ HS1 HF1
      go_wp2_with fail
      exact HFIN.out
    | false =>
      clear HF1
      go_wp2_with fail
      go_loopw [11] (fun i wr => ∃ j : Nat, j ≤ L1.length ∧ i = .int .i64 j ∧ j + rankOf (fun y : Ev => decide (y.id < xid)) (L1.drop j) = RK ∧ Below wc.heap.size wc wr) (fun i _ => L1.length - (intOf i).toNat)
      case atStart => exact ⟨0, by omega, rfl, by rw [HRK.out]; simp, Below.refl _ _⟩
      case round =>
        obtain ⟨j, hj, rfl, hp, hb⟩ := hrel
        have hbW := HT0.out _ _ HBW.out hb
        have HBJ := Lib.hid hb
        have hbd : Below (w.heap.size + 2) W0 wr.drew := hbW.drew
        by_cases hlt : j < L1.length
        · obtain ⟨b, off, y, rfl, hbl, hyk, hc, _⟩ := (HS1.out _ hb).at_ hlt
          have HKY := Lib.hid (fun (w1 : World) => key38_calls y w1)
          rw [drop_at L1 j y hyk, rankOf] at hp
          have HCY := Lib.hid (fun (w1 : World) (h : Below wr.heap.size wr w1) (q : Nat) (u : Value) (e : y.enc[q]? = some u) => (h.cell (p := ⟨b, off + j * 7 + q, none⟩) hbl).trans (hc q u e))
          clear hc hyk hb
          obtain ⟨yid, yin, yout, yreg, ykind, ysp, ya, yc, yrows⟩ := y
          simp only [Ev.enc] at HKY HCY
          simp only at hp

          have d0 := fun w1 h => HCY.out w1 h 0 _ rfl
          have d1 := fun w1 h => HCY.out w1 h 1 _ rfl
          have d2 := fun w1 h => HCY.out w1 h 2 _ rfl
          have d3 := fun w1 h => HCY.out w1 h 3 _ rfl
          have d4 := fun w1 h => HCY.out w1 h 4 _ rfl
          have d5 := fun w1 h => HCY.out w1 h 5 _ rfl
          have d6 := fun w1 h => HCY.out w1 h 6 _ rfl
          simp only [Nat.add_zero] at d0
          have hrd : Below wr.heap.size wr wr.drew := (Below.refl _ _).drew
          have bx2 : ∀ (w' : World), Below wr.heap.size wr w' → ∀ (q : Nat), w'.cell? ⟨w.heap.size + 1, q, none⟩ = #[.int .i64 xid, .int .i64 xin, .int .i64 xout, .string xreg, .int .u8 xkind, .string xsp, .slice xa xrows.length xc][q]? := fun w' h q => bx w' (HT0.out _ _ hbW h) q
          clear HCY bx
          cases hlz : decide (yid < xid) with
          | true =>
            rw [if_pos hlz] at hp
            have HP := Lib.hid hp
            clear hp
            go_upto_region 6 with fail
            go_region_held3 (fun w' => Below wr.heap.size wr w') (first | with_reducible assumption | with_reducible exact hrd) (first
              | (go_at_call 38; first | ((with_reducible refine (HKY.out _).mono ?_); rintro e w1 ⟨rfl, hy1⟩; have hw1 : Below wr.heap.size wr w1 := hrd.trans (hy1.mono hrd.size)) | ((with_reducible refine (HKX.out _).mono ?_); rintro e w2 ⟨rfl, hy2⟩; have hw2 : Below wr.heap.size wr w2 := hw1.trans (hy2.mono hw1.size))))
            go_wp2_with fail
            go_roundw
            case rel => exact ⟨j + 1, by omega, by go_num, by have := HP.out; omega, HBJ.out.trans (hw2.mono HBJ.out.size)⟩
            all_goals first | (simp [intOf]; done) | (simp [intOf]; omega)
          | false =>
            rw [if_neg (by rw [hlz]; decide)] at hp
            obtain rfl : j = RK := by omega
            clear hp
            go_upto_region 6 with fail
            go_region_held3 (fun w' => Below wr.heap.size wr w') (first | with_reducible assumption | with_reducible exact hrd) (first
              | (go_at_call 38; first | ((with_reducible refine (HKY.out _).mono ?_); rintro e w1 ⟨rfl, hy1⟩; have hw1 : Below wr.heap.size wr w1 := hrd.trans (hy1.mono hrd.size)) | ((with_reducible refine (HKX.out _).mono ?_); rintro e w2 ⟨rfl, hy2⟩; have hw2 : Below wr.heap.size wr w2 := hw1.trans (hy2.mono hw1.size))))
            have hbz := HT0.out _ _ hbW hw2
            have HBZ := Lib.hid (HBJ.out.trans (hw2.mono HBJ.out.size))
            have hwz : Below wr.heap.size wr w2 := hw2
            clear hw1 hw2 hy1 hy2
            have HCL := Lib.hid (fun (w1 : World) (h : Below w2.heap.size w2 w1) => clone108_calls _ c1 L1 w1 (HS1.out _ (HBZ.out.trans (h.mono HBZ.out.size))) hL1l)
            have hzd : Below w2.heap.size w2 w2.drew := (Below.refl _ _).drew
            have hza : ∀ o, Below w2.heap.size w2 (w2.drew.alloc o) := fun o => hzd.alloc hzd.size o
            have bx3 : ∀ (w' : World), Below w2.heap.size w2 w' → ∀ (q : Nat), w'.cell? ⟨w.heap.size + 1, q, none⟩ = #[.int .i64 xid, .int .i64 xin, .int .i64 xout, .string xreg, .int .u8 xkind, .string xsp, .slice xa xrows.length xc][q]? := fun w' h q => bx2 w' (hwz.trans (h.mono hwz.size)) q
            have HBX := Lib.hid (heap_alloc_last w2.drew (.cells #[.int .i64 xid, .int .i64 xin, .int .i64 xout, .string xreg, .int .u8 xkind, .string xsp, .slice xa xrows.length xc] 50))
            go_upto_region 8 with fail
            go_region_held3 (fun w' => Below w2.heap.size w2 w') (first | with_reducible assumption | with_reducible exact hzd | exact hza _ | exact h6.alloc h6.size _ | fail) (first
              | (go_at_call 108; (with_reducible refine (HCL.out _ ?_).mono ?_); assumption; rintro e w6 ⟨v6, rfl, ho6, hb6⟩; have h6 : Below w2.heap.size w2 w6 := (by assumption : Below w2.heap.size w2 _).trans (hb6.mono (by first | exact hzd.size | exact (hza _).size)); have HI2 := Lib.hid (insertEv_calls w2.heap.size v6 L1 j (⟨xid, xin, xout, xreg, xkind, xsp, xa, xc, xrows⟩ : Ev) w6.heap.size 1 (w6.alloc (.cells #[.int .i64 xid, .int .i64 xin, .int .i64 xout, .string xreg, .int .u8 xkind, .string xsp, .slice xa xrows.length xc] 50)) ((owns_mono ho6 (by first | exact hzd.size | exact (hza _).size)).alloc _) (heap_alloc_last w6 _) (fun e => by have := (ho6.lt _ e).2; omega) (by omega) (by omega) (h6.alloc h6.size _).size); (first | (have HI1 := Lib.hid (insertEv_calls w2.heap.size v6 L1 j (⟨xid, xin, xout, xreg, xkind, xsp, xa, xc, xrows⟩ : Ev) w2.heap.size 1 w6 (owns_mono ho6 (hza _).size) ((hb6.block w2.heap.size (by simp)).trans HBX.out) (fun e => by have := (ho6.lt _ e).1; simp at this; omega) (by omega) (by omega) h6.size)) | skip); clear ho6 hb6)
              | (go_at_call 188; (first | ((with_reducible refine HI2.out.mono ?_); rintro e w8 ⟨a8, c8, rfl, hS8, hf8, hb8⟩; have h8 : Below w2.heap.size w2 w8 := (h6.alloc h6.size _).trans hb8) | ((with_reducible refine HI1.out.mono ?_); rintro e w8 ⟨a8, c8, rfl, hS8, hf8, hb8⟩; have h8 : Below w2.heap.size w2 w8 := h6.trans hb8)); have HS8 := Lib.hid hS8; have HF8 := Lib.hid hf8; clear hS8 hf8 hb8))
            all_goals
              have HFIN := Lib.hid (HQ.out (insAt L1 j (⟨xid, xin, xout, xreg, xkind, xsp, xa, xc, xrows⟩ : Ev)) a8 c8 w8 (by rfl) HS8.out (fun ad e => Nat.le_trans (by have := HLT.out _ hbz; omega) (HF8.out ad e)) (HB.out _ (HT0.out _ _ hbz h8)))
              clear HQ HS8 HF8
              go_wp2_with fail
              exact HFIN.out

        · obtain rfl : j = L1.length := by omega
          rw [List.drop_length, rankOf] at hp
          obtain rfl : L1.length = RK := by omega
          clear hp
          have hkd : decide (((L1.length : Nat) : Int) < ((L1.length : Nat) : Int)) = false := by simp
          go_upto_region 6 with fail
          have HWN := Lib.hid (fun n => below_drewN hbW n)
          have HJN := Lib.hid (fun n => below_drewN HBJ.out n)
          go_quiet (fail)
          go_wp2_with fail
          generalize hwq : World.drewN wr _ = wq
          have hbz : Below (w.heap.size + 2) W0 wq := hwq ▸ HWN.out _
          have HBZ := Lib.hid (show Below wc.heap.size wc wq from hwq ▸ HJN.out _)
          clear hbW hbd HBJ hwq
          have HCL := Lib.hid (fun (w1 : World) (h : Below wq.heap.size wq w1) => clone108_calls _ c1 L1 w1 (HS1.out _ (HBZ.out.trans (h.mono HBZ.out.size))) hL1l)
          have hzd : Below wq.heap.size wq wq.drew := (Below.refl _ _).drew
          have hza : ∀ o, Below wq.heap.size wq (wq.drew.alloc o) := fun o => hzd.alloc hzd.size o
          have bx3 : ∀ (w' : World), Below wq.heap.size wq w' → ∀ (q : Nat), w'.cell? ⟨w.heap.size + 1, q, none⟩ = #[.int .i64 xid, .int .i64 xin, .int .i64 xout, .string xreg, .int .u8 xkind, .string xsp, .slice xa xrows.length xc][q]? := fun w' h q => bx w' (HT0.out _ _ hbz h) q
          have HBX := Lib.hid (heap_alloc_last wq.drew (.cells #[.int .i64 xid, .int .i64 xin, .int .i64 xout, .string xreg, .int .u8 xkind, .string xsp, .slice xa xrows.length xc] 50))
          go_upto_region 8 with fail
          go_region_held3 (fun w' => Below wq.heap.size wq w') (first | with_reducible assumption | with_reducible exact hzd | exact hza _ | exact h6.alloc h6.size _ | fail) (first
            | (go_at_call 108; (with_reducible refine (HCL.out _ ?_).mono ?_); assumption; rintro e w6 ⟨v6, rfl, ho6, hb6⟩; have h6 : Below wq.heap.size wq w6 := (by assumption : Below wq.heap.size wq _).trans (hb6.mono (by first | exact hzd.size | exact (hza _).size)); have HI2 := Lib.hid (insertEv_calls wq.heap.size v6 L1 L1.length (⟨xid, xin, xout, xreg, xkind, xsp, xa, xc, xrows⟩ : Ev) w6.heap.size 1 (w6.alloc (.cells #[.int .i64 xid, .int .i64 xin, .int .i64 xout, .string xreg, .int .u8 xkind, .string xsp, .slice xa xrows.length xc] 50)) ((owns_mono ho6 (by first | exact hzd.size | exact (hza _).size)).alloc _) (heap_alloc_last w6 _) (fun e => by have := (ho6.lt _ e).2; omega) (by omega) (by omega) (h6.alloc h6.size _).size); (first | (have HI1 := Lib.hid (insertEv_calls wq.heap.size v6 L1 L1.length (⟨xid, xin, xout, xreg, xkind, xsp, xa, xc, xrows⟩ : Ev) wq.heap.size 1 w6 (owns_mono ho6 (hza _).size) ((hb6.block wq.heap.size (by simp)).trans HBX.out) (fun e => by have := (ho6.lt _ e).1; simp at this; omega) (by omega) (by omega) h6.size)) | skip); clear ho6 hb6)
            | (go_at_call 188; (first | ((with_reducible refine HI2.out.mono ?_); rintro e w8 ⟨a8, c8, rfl, hS8, hf8, hb8⟩; have h8 : Below wq.heap.size wq w8 := (h6.alloc h6.size _).trans hb8) | ((with_reducible refine HI1.out.mono ?_); rintro e w8 ⟨a8, c8, rfl, hS8, hf8, hb8⟩; have h8 : Below wq.heap.size wq w8 := h6.trans hb8)); have HS8 := Lib.hid hS8; have HF8 := Lib.hid hf8; clear hS8 hf8 hb8))
          all_goals
            have HFIN := Lib.hid (HQ.out (insAt L1 L1.length (⟨xid, xin, xout, xreg, xkind, xsp, xa, xc, xrows⟩ : Ev)) a8 c8 w8 (by rfl) HS8.out (fun ad e => Nat.le_trans (by have := HLT.out _ hbz; omega) (HF8.out ad e)) (HB.out _ (HT0.out _ _ hbz h8)))
            clear HQ HS8 HF8
            go_wp2_with fail
            exact HFIN.out
end Go.Proofs.YtnlnmbcaongehaaGreatDoor
namespace Go.Proofs.YtnlnmbcaongehaaGreatDoor
open Go.RowKit
/-- The blocks in which events and what hangs on them lie. -/
def evsUse (a : Option Addr) (xs : List Ev) (b : Nat) : Prop := sUses a xs b ∨ ∃ x ∈ xs, x.uses b
theorem evs_each {w : World} {a : Option Addr} {xs : List Ev} (h : EvsAt w a xs) {x : Ev} (hx : x ∈ xs) : x.lies w := by
  obtain ⟨i, hi, rfl⟩ := List.getElem_of_mem hx
  obtain ⟨b, off, y, _, _, hy, _, hl⟩ := h.at_ hi
  obtain rfl : xs[i] = y := Option.some.inj ((List.getElem?_eq_getElem hi).symm.trans hy)
  exact hl
theorem EvsAt.frame {a : Option Addr} {xs : List Ev} {w w' : World} (h : EvsAt w a xs) (hs : w.heap.size ≤ w'.heap.size) (hb : ∀ b, evsUse a xs b → w'.heap[b]? = w.heap[b]?) : EvsAt w' a xs :=
  SliceOf.frame h hs (fun b hu => hb b (.inl hu)) fun x hx hl => Ev.frame hl hs fun b hu => hb b (.inr ⟨x, hx, hu⟩)
theorem evsUse_lt {w : World} {a : Option Addr} {xs : List Ev} (h : EvsAt w a xs) {b : Nat} (hu : evsUse a xs b) : b < w.heap.size := by
  rcases hu with hu | ⟨x, hx, hu⟩
  · exact sUses_lt h hu
  · exact Ev.uses_lt (evs_each h hx) hu
def Doc.uses (d : Doc) (b : Nat) : Prop := sUses d.ra d.regs b ∨ evsUse d.ea d.evs b ∨ sUses d.ca d.cms b
theorem Doc.frame {d : Doc} {w w' : World} (h : d.lies w) (hs : w.heap.size ≤ w'.heap.size) (hb : ∀ b, d.uses b → w'.heap[b]? = w.heap[b]?) : d.lies w' :=
  ⟨SliceOf.frame h.1 hs (fun b hu => hb b (.inl hu)) (fun _ _ _ => trivial), EvsAt.frame h.2.1 hs fun b hu => hb b (.inr (.inl hu)), SliceOf.frame h.2.2 hs (fun b hu => hb b (.inr (.inr hu))) (fun _ _ _ => trivial)⟩
theorem Doc.uses_lt {d : Doc} {w : World} (h : d.lies w) {b : Nat} (hu : d.uses b) : b < w.heap.size := by
  rcases hu with hu | hu | hu
  · exact sUses_lt h.1 hu
  · exact evsUse_lt h.2.1 hu
  · exact sUses_lt h.2.2 hu
/-- The contents of a document. -/
structure DocC where
  hd : Hd
  regs : List Reg
  evs : List EvC
  cms : List Cm
def Doc.c (d : Doc) : DocC := ⟨d.hd, d.regs, d.evs.map Ev.c, d.cms⟩
/-- A document with the same contents, in memory of the call's own. -/
def DocCopy (c : DocC) (w : World) (e : Ending) (w' : World) : Prop := ∃ d : Doc, e = .returned (.agg d.enc.toArray) ∧ d.c = c ∧ d.lies w' ∧ (∀ b, d.uses b → w.heap.size ≤ b) ∧ Below w.heap.size w w'
theorem set_behind {α : Type} (l1 l2 : List α) (i : Nat) (v : α) : (l1 ++ l2).set (l1.length + i) v = l1 ++ l2.set i v := by
  induction l1 with
  | nil => simp
  | cons x l ih =>
    rw [List.cons_append, List.length_cons, show l.length + 1 + i = (l.length + i) + 1 by omega, List.set_cons_succ, ih]
    rfl
theorem evs_flat_set : ∀ (xs : List Ev) (k : Nat) (y : Ev), k < xs.length → (xs.set k y).flatMap Ev.enc = (((((((xs.flatMap Ev.enc).set (k * 7) (.int .i64 y.id)).set (k * 7 + 1) (.int .i64 y.inn)).set (k * 7 + 2) (.int .i64 y.out)).set (k * 7 + 3) (.string y.region)).set (k * 7 + 4) (.int .u8 y.kind)).set (k * 7 + 5) (.string y.speaker)).set (k * 7 + 6) (.slice y.at_ y.rows.length y.cap)
  | [], k, y, h => by simp at h
  | x :: xs, 0, y, h => by simp [Ev.enc]
  | x :: xs, k + 1, y, h => by
    have := evs_flat_set xs k y (by simpa using h)
    rw [List.set_cons_succ, List.flatMap_cons, List.flatMap_cons, this]
    have hl : x.enc.length = 7 := rfl
    rw [show (k + 1) * 7 = x.enc.length + k * 7 by rw [hl]; omega]
    simp only [Nat.add_assoc, set_behind]
/-- An event of a row of the call's own, written anew. -/
theorem ev_stored {w : World} {base g n cap k : Nat} {zs : List Ev} (h : w.ownsRow base 50 7 (.slice (some ⟨g, 0, none⟩) n cap) n (zs.flatMap Ev.enc)) (hn : zs.length = n) (hk : k < n) (y : Ev) (w' : World)
    (hw : w' = ((((((w.setCell ⟨g, k * 7, none⟩ (.int .i64 y.id)).setCell ⟨g, k * 7 + 1, none⟩ (.int .i64 y.inn)).setCell ⟨g, k * 7 + 2, none⟩ (.int .i64 y.out)).setCell ⟨g, k * 7 + 3, none⟩ (.string y.region)).setCell ⟨g, k * 7 + 4, none⟩ (.int .u8 y.kind)).setCell ⟨g, k * 7 + 5, none⟩ (.string y.speaker)).setCell ⟨g, k * 7 + 6, none⟩ (.slice y.at_ y.rows.length y.cap)) :
    w'.ownsRow base 50 7 (.slice (some ⟨g, 0, none⟩) n cap) n ((zs.set k y).flatMap Ev.enc) ∧ w.heap.size = w'.heap.size ∧ ∀ b, b ≠ g → w'.heap[b]? = w.heap[b]? := by
  subst hw
  refine ⟨?_, by simp, fun b hb => ?_⟩
  · rw [evs_flat_set zs k y (by omega)]
    exact (((((((h.stored _ _).1.stored _ _).1.stored _ _).1.stored _ _).1.stored _ _).1.stored _ _).1.stored _ _).1
  · repeat rw [Below.heap_setCell _ _ _ _ hb]
end Go.Proofs.YtnlnmbcaongehaaGreatDoor
namespace Go.Proofs.YtnlnmbcaongehaaGreatDoor
open Go.RowKit
/-- The error of a change by whether there is a value, and whether it is the old one. -/
def allowedErr (ad t s : Bool) : Int := if (ad && t) = true then 7 else if (!ad && !t) = true then 6 else if (!ad && !s) = true then 16 else 0
set_option maxHeartbeats 3200000 in
theorem allowed_calls (c : Chg) (t s : Bool) (w : World) : Calls Tryz.prog 109 #[.agg c.enc.toArray, .bool t, .bool s] w fun e w' => e = .returned (.int .i64 (allowedErr c.added t s)) ∧ Below w.heap.size w w' := by
  generalize hQ : (fun (e : Ending) (w' : World) => e = .returned (.int .i64 (allowedErr c.added t s)) ∧ Below w.heap.size w w') = Q
  obtain ⟨sec, id, name, ad, gn, oh, nh, rg, nr, oe, ne, oc, nc⟩ := c
  simp only at hQ
  have HQ := Lib.hid (fun (i : Int) (w' : World) (h : allowedErr ad t s = i) (hb : Below w.heap.size w w') => (show Q (.returned (.int .i64 i)) w' from hQ ▸ ⟨by rw [h], hb⟩))
  generalize hcl : Chg.enc _ = cl
  have hc3 : cl.toArray[3]? = some (.bool ad) := by rw [← hcl]; rfl
  clear hcl hQ
  obtain ⟨cs, hcs⟩ : ∃ cs, cs = cl.toArray := ⟨_, rfl⟩
  rw [← hcs] at hc3 ⊢
  clear hcs
  have f3 := box_cell w cs 54 3 _ hc3
  have HB := Lib.hid (fun (w1 : World) (h : Below (w.heap.size + 1) (w.alloc (.cells cs 54)) w1) => box_below h)
  have hb0 : Below (w.heap.size + 1) (w.alloc (.cells cs 54)) (w.alloc (.cells cs 54)) := Below.refl _ _
  generalize hW0 : w.alloc (.cells cs 54) = W0 at *
  have HW0 := Lib.hid hW0
  clear hW0 hc3
  cases ad <;> cases t <;> cases s
  all_goals
    go_enter Tryz.func109, Tryz.ntmps109
    go_upto_region 1 with fail
    rw [HW0.out]
    go_wp2_with fail
    exact HQ.out _ _ (by rfl) (HB.out _ hb0)
end Go.Proofs.YtnlnmbcaongehaaGreatDoor
namespace Go.Proofs.YtnlnmbcaongehaaGreatDoor
open Go.Sort
variable {α : Type} [Inhabited α]
/-- Where the element at i comes from when [x, x+n) and [y, y+n) are exchanged. -/
def swIx (x y n i : Nat) : Nat := if x ≤ i ∧ i < x + n then i - x + y else if y ≤ i ∧ i < y + n then i - y + x else i
/-- Where the element at i comes from when [a, m) and [m, b) are exchanged. -/
def rotIx (a m b i : Nat) : Nat := if a ≤ i ∧ i < a + (b - m) then i + (m - a) else if a + (b - m) ≤ i ∧ i < b then i - (b - m) else i
theorem sw_zero (x y i : Nat) : swIx x y 0 i = i := by
  unfold swIx
  rw [if_neg (by omega), if_neg (by omega)]
/-- One exchange more. -/
theorem sw_step (d dk : Array α) (x y n k : Nat) (hxy : x + n ≤ y) (hk : k < n) (hy : y + n ≤ d.size) (hs : dk.size = d.size) (h : ∀ i, dk[i]! = d[swIx x y k i]!) (i : Nat) : (swp dk (x + k) (y + k))[i]! = d[swIx x y (k + 1) i]! := by
  rw [swp_get dk (show x + k < dk.size by omega) (show y + k < dk.size by omega), h, h, h]
  by_cases h1 : i = y + k
  · rw [if_pos h1]
    congr 1
    unfold swIx
    rw [if_neg (by omega), if_neg (by omega), if_neg (by omega), if_pos (by omega)]
    omega
  · rw [if_neg h1]
    by_cases h2 : i = x + k
    · rw [if_pos h2]
      congr 1
      unfold swIx
      rw [if_neg (by omega), if_neg (by omega), if_pos (by omega)]
      omega
    · rw [if_neg h2]
      congr 1
      unfold swIx
      by_cases h3 : x ≤ i ∧ i < x + k
      · rw [if_pos h3, if_pos (by omega)]
      · rw [if_neg h3, if_neg (show ¬ (x ≤ i ∧ i < x + (k + 1)) by omega)]
        by_cases h4 : y ≤ i ∧ i < y + k
        · rw [if_pos h4, if_pos (by omega)]
        · rw [if_neg h4, if_neg (by omega)]
theorem rot_left (m i j t : Nat) (hj : 0 < j) (hij : j < i) (him : i ≤ m) : swIx (m - i) m j (rotIx (m - i + j) m (m + j) t) = rotIx (m - i) m (m + j) t := by
  unfold rotIx swIx
  repeat' split
  all_goals omega
theorem rot_right (m i j t : Nat) (hi : 0 < i) (hij : i < j) (him : i ≤ m) : swIx (m - i) (m + j - i) i (rotIx (m - i) m (m + j - i) t) = rotIx (m - i) m (m + j) t := by
  unfold rotIx swIx
  repeat' split
  all_goals omega
theorem rot_same (m i t : Nat) (him : i ≤ m) : swIx (m - i) m i t = rotIx (m - i) m (m + i) t := by
  unfold rotIx swIx
  repeat' split
  all_goals omega
theorem rot_id (a m b i : Nat) (h : a = m ∨ m = b) (h1 : a ≤ m) (h2 : m ≤ b) : rotIx a m b i = i := by
  unfold rotIx
  repeat' split
  all_goals omega
/-- One exchange more: an element moves up. -/
theorem up_step (d dk : Array α) (a k : Nat) (hak : a ≤ k) (hk : k + 1 < d.size) (hs : dk.size = d.size) (h : ∀ i, dk[i]! = d[rotIx a (a + 1) (k + 1) i]!) (i : Nat) : (swp dk k (k + 1))[i]! = d[rotIx a (a + 1) (k + 2) i]! := by
  rw [swp_get dk (show k < dk.size by omega) (show k + 1 < dk.size by omega), h, h, h]
  by_cases h1 : i = k + 1
  · rw [if_pos h1]; congr 1; unfold rotIx
    repeat' split
    all_goals omega
  · rw [if_neg h1]
    by_cases h2 : i = k
    · rw [if_pos h2]; congr 1; unfold rotIx
      repeat' split
      all_goals omega
    · rw [if_neg h2]; congr 1; unfold rotIx
      repeat' split
      all_goals omega
/-- One exchange more: an element moves down. -/
theorem down_step (d dk : Array α) (m k : Nat) (hkm : k + 1 ≤ m) (hk : m < d.size) (hs : dk.size = d.size) (h : ∀ i, dk[i]! = d[rotIx (k + 1) m (m + 1) i]!) (i : Nat) : (swp dk (k + 1) k)[i]! = d[rotIx k m (m + 1) i]! := by
  rw [swp_get dk (show k + 1 < dk.size by omega) (show k < dk.size by omega), h, h, h]
  by_cases h1 : i = k
  · rw [if_pos h1]; congr 1; unfold rotIx
    repeat' split
    all_goals omega
  · rw [if_neg h1]
    by_cases h2 : i = k + 1
    · rw [if_pos h2]; congr 1; unfold rotIx
      repeat' split
      all_goals omega
    · rw [if_neg h2]; congr 1; unfold rotIx
      repeat' split
      all_goals omega
variable {lt : α → α → Bool}
theorem SortedIn.part {a b a' b' : Nat} {d : Array α} (h : SortedIn lt a b d) (ha : a ≤ a') (hb : b' ≤ b) : SortedIn lt a' b' d := fun i j h1 h2 h3 => h i j (by omega) h2 (by omega)
/-- A place of a permuted part, seen from outside. -/
theorem PermIn.out {a b i : Nat} {d d' : Array α} (h : PermIn a b d d') (hi : i < a ∨ b ≤ i) : d'[i]! = d[i]! := h.2.1 i hi
/-- The first element goes to its place among the others. -/
theorem ins_up (hS : SWO lt) (d d' : Array α) (a i b : Nat) (hi : a + 1 ≤ i) (hib : i ≤ b) (h : SortedIn lt (a + 1) b d) (hlo : ∀ t, a + 1 ≤ t → t < i → lt d[t]! d[a]! = true) (hhi : ∀ t, i ≤ t → t < b → lt d[t]! d[a]! = false)
    (hd : ∀ t, d'[t]! = d[rotIx a (a + 1) i t]!) : SortedIn lt a b d' := by
  have e1 : ∀ t, a ≤ t → t < i - 1 → d'[t]! = d[t + 1]! := fun t h1 h2 => by rw [hd]; congr 1; unfold rotIx; rw [if_pos (by omega)]; omega
  have e2 : d'[i - 1]! = d[a]! := by rw [hd]; congr 1; unfold rotIx; rw [if_neg (by omega), if_pos (by omega)]; omega
  have e3 : ∀ t, i ≤ t → d'[t]! = d[t]! := fun t h1 => by rw [hd]; congr 1; unfold rotIx; rw [if_neg (by omega), if_neg (by omega)]
  intro p q hp hpq hq
  by_cases hq1 : q < i - 1
  · rw [e1 q (by omega) hq1, e1 p hp (by omega)]; exact h _ _ (by omega) (by omega) (by omega)
  · by_cases hq2 : q = i - 1
    · rw [hq2, e2, e1 p hp (by omega)]; exact hS.asymmA (hlo _ (by omega) (by omega))
    · rw [e3 q (by omega)]
      by_cases hp1 : p < i - 1
      · rw [e1 p hp hp1]; exact h _ _ (by omega) (by omega) hq
      · by_cases hp2 : p = i - 1
        · rw [hp2, e2]; exact hhi _ (by omega) hq
        · rw [e3 p (by omega)]; exact h _ _ (by omega) hpq hq
/-- The last element goes to its place among the others. -/
theorem ins_down (hS : SWO lt) (d d' : Array α) (a i m : Nat) (hi : a ≤ i) (him : i ≤ m) (h : SortedIn lt a m d) (hlo : ∀ t, a ≤ t → t < i → lt d[m]! d[t]! = false) (hhi : ∀ t, i ≤ t → t < m → lt d[m]! d[t]! = true)
    (hd : ∀ t, d'[t]! = d[rotIx i m (m + 1) t]!) : SortedIn lt a (m + 1) d' := by
  have e1 : ∀ t, t < i → d'[t]! = d[t]! := fun t h1 => by rw [hd]; congr 1; unfold rotIx; rw [if_neg (by omega), if_neg (by omega)]
  have e2 : d'[i]! = d[m]! := by rw [hd]; congr 1; unfold rotIx; rw [if_pos (by omega)]; omega
  have e3 : ∀ t, i < t → t ≤ m → d'[t]! = d[t - 1]! := fun t h1 h2 => by rw [hd]; congr 1; unfold rotIx; rw [if_neg (by omega), if_pos (by omega)]; omega
  intro p q hp hpq hq
  by_cases hq1 : q < i
  · rw [e1 q hq1, e1 p (by omega)]; exact h _ _ hp hpq (by omega)
  · by_cases hq2 : q = i
    · rw [hq2, e2, e1 p (by omega)]; exact hlo _ hp (by omega)
    · rw [e3 q (by omega) (by omega)]
      by_cases hp1 : p < i
      · rw [e1 p hp1]; exact h _ _ hp (by omega) (by omega)
      · by_cases hp2 : p = i
        · rw [hp2, e2]; exact hS.asymmA (hhi _ (by omega) (by omega))
        · rw [e3 p (by omega) (by omega)]; exact h _ _ (by omega) (by omega) (by omega)
/-- Behind the rotation: the two halves, each of two ascending parts, and nothing of the second one is less than something of the first. -/
theorem halves (hS : SWO lt) (d d' : Array α) (a m b start fin mid : Nat) (h1 : a ≤ start) (h2 : start ≤ m) (h3 : m ≤ fin) (h4 : fin ≤ b) (hmid : start + (fin - m) = mid) (hl : SortedIn lt a m d) (hr : SortedIn lt m b d)
    (hL : ∀ t u, a ≤ t → t < start → fin ≤ u → u < b → lt d[u]! d[t]! = false) (hR : ∀ t u, start ≤ t → t < m → m ≤ u → u < fin → lt d[t]! d[u]! = false)
    (hd : ∀ t, d'[t]! = d[rotIx start m fin t]!) :
    SortedIn lt a start d' ∧ SortedIn lt start mid d' ∧ SortedIn lt mid fin d' ∧ SortedIn lt fin b d' ∧ ∀ u v, a ≤ u → u < mid → mid ≤ v → v < b → lt d'[v]! d'[u]! = false := by
  have e1 : ∀ t, t < start → d'[t]! = d[t]! := fun t h => by rw [hd]; congr 1; unfold rotIx; rw [if_neg (by omega), if_neg (by omega)]
  have e2 : ∀ t, start ≤ t → t < mid → d'[t]! = d[t + (m - start)]! := fun t h h' => by rw [hd]; congr 1; unfold rotIx; rw [if_pos (by omega)]
  have e3 : ∀ t, mid ≤ t → t < fin → d'[t]! = d[t - (fin - m)]! := fun t h h' => by rw [hd]; congr 1; unfold rotIx; rw [if_neg (by omega), if_pos (by omega)]
  have e4 : ∀ t, fin ≤ t → d'[t]! = d[t]! := fun t h => by rw [hd]; congr 1; unfold rotIx; rw [if_neg (by omega), if_neg (by omega)]
  refine ⟨fun p q hp hpq hq => ?_, fun p q hp hpq hq => ?_, fun p q hp hpq hq => ?_, fun p q hp hpq hq => ?_, fun u v hu hu' hv hv' => ?_⟩
  · rw [e1 q hq, e1 p (by omega)]; exact hl _ _ hp hpq (by omega)
  · rw [e2 q (by omega) hq, e2 p hp (by omega)]; exact hr _ _ (by omega) (by omega) (by omega)
  · rw [e3 q (by omega) hq, e3 p hp (by omega)]; exact hl _ _ (by omega) (by omega) (by omega)
  · rw [e4 q (by omega), e4 p hp]; exact hr _ _ (by omega) hpq hq
  · by_cases hu1 : u < start
    · rw [e1 u hu1]
      by_cases hv1 : v < fin
      · rw [e3 v hv hv1]; exact hl _ _ hu (by omega) (by omega)
      · rw [e4 v (by omega)]; exact hL _ _ hu hu1 (by omega) hv'
    · rw [e2 u (by omega) hu']
      by_cases hv1 : v < fin
      · rw [e3 v hv hv1]; exact hR _ _ (by omega) (by omega) (by omega) (by omega)
      · rw [e4 v (by omega)]; exact hr _ _ (by omega) (by omega) hv'
/-- Two ascending halves, the second nowhere less than the first. -/
theorem join2 (d : Array α) (a mid b : Nat) (h1 : SortedIn lt a mid d) (h2 : SortedIn lt mid b d) (hx : ∀ u v, a ≤ u → u < mid → mid ≤ v → v < b → lt d[v]! d[u]! = false) : SortedIn lt a b d := by
  intro p q hp hpq hq
  by_cases hq1 : q < mid
  · exact h1 _ _ hp hpq hq1
  · by_cases hp1 : p < mid
    · exact hx _ _ hp hp1 (by omega) hq
    · exact h2 _ _ (by omega) hpq hq
/-- The halves merged one behind the other. -/
theorem merged (d1 d2 d3 : Array α) (a mid b : Nat) (hm : a ≤ mid) (hb : mid ≤ b) (hsz : b ≤ d1.size) (hx : ∀ u v, a ≤ u → u < mid → mid ≤ v → v < b → lt d1[v]! d1[u]! = false)
    (p2 : PermIn a mid d1 d2) (s2 : SortedIn lt a mid d2) (p3 : PermIn mid b d2 d3) (s3 : SortedIn lt mid b d3) : PermIn a b d1 d3 ∧ SortedIn lt a b d3 := by
  have z2 : d2.size = d1.size := p2.1
  refine ⟨permIn_trans _ _ _ a b (permIn_mono _ _ a mid a b (Nat.le_refl _) hb hsz p2) (permIn_mono _ _ mid b a b hm (Nat.le_refl _) (by omega) p3), join2 d3 a mid b ?_ s3 ?_⟩
  · intro p q hp hpq hq
    rw [p3.2.1 q (by omega), p3.2.1 p (by omega)]
    exact s2 p q hp hpq hq
  · have hx2 : ∀ v, mid ≤ v → v < b → ∀ u, a ≤ u → u < mid → lt d2[v]! d2[u]! = false := fun v hv hv' u hu hu' => by
      rw [p2.2.1 v (by omega)]
      exact permIn_all d1 d2 a mid (fun y => lt d1[v]! y = false) (by omega) p2 (fun i h h' => hx i v h h' hv hv') u hu hu'
    intro u v hu hu' hv hv'
    rw [p3.2.1 u (by omega)]
    exact permIn_all d2 d3 mid b (fun y => lt y d2[u]! = false) (by omega) p3 (fun i h h' => hx2 i h h' u hu hu') v hv hv'
/-- From a on the row lies in ascending blocks. -/
inductive Blk (lt : α → α → Bool) (bs n : Nat) (d : Array α) : Nat → Prop where
  | stop (a : Nat) : n ≤ a → Blk lt bs n d a
  | go (a : Nat) : SortedIn lt a (min (a + bs) n) d → Blk lt bs n d (a + bs) → Blk lt bs n d a
/-- Up to a the row lies in ascending blocks. -/
inductive Pre (lt : α → α → Bool) (bs : Nat) (d : Array α) : Nat → Prop where
  | zero : Pre lt bs d 0
  | snoc (a : Nat) : Pre lt bs d a → SortedIn lt a (a + bs) d → Pre lt bs d (a + bs)
theorem Blk.congr {bs n a : Nat} {d d' : Array α} (h : Blk lt bs n d a) (e : ∀ i, a ≤ i → d'[i]! = d[i]!) : Blk lt bs n d' a := by
  induction h with
  | stop a h => exact .stop a h
  | go a hs _ ih =>
    refine .go a (fun p q hp hpq hq => ?_) (ih fun i hi => e i (by omega))
    rw [e q (by omega), e p hp]
    exact hs p q hp hpq hq
theorem Pre.congr {bs a : Nat} {d d' : Array α} (h : Pre lt bs d a) (e : ∀ i, i < a → d'[i]! = d[i]!) : Pre lt bs d' a := by
  induction h with
  | zero => exact .zero
  | snoc a _ hs ih =>
    refine .snoc a (ih fun i hi => e i (by omega)) (fun p q hp hpq hq => ?_)
    rw [e q (by omega), e p (by omega)]
    exact hs p q hp hpq hq
theorem Pre.join {bs n a : Nat} {d : Array α} (h : Pre lt bs d a) : Blk lt bs n d a → Blk lt bs n d 0 := by
  induction h with
  | zero => exact id
  | snoc a _ hs ih => exact fun hb => ih (.go a (SortedIn.part hs (Nat.le_refl _) (by omega)) hb)
theorem Blk.head {bs n a : Nat} {d : Array α} (h : Blk lt bs n d a) : SortedIn lt a (min (a + bs) n) d := by
  cases h with
  | stop _ h => exact fun p q h1 h2 h3 => by omega
  | go _ hs _ => exact hs
theorem Blk.tail {bs n a : Nat} {d : Array α} (h : Blk lt bs n d a) : Blk lt bs n d (a + bs) := by
  cases h with
  | stop _ h => exact .stop _ (by omega)
  | go _ _ ht => exact ht
/-- Where the search ends: what is ahead of it stays ahead, what is behind it stays behind. -/
theorem search_end (hS : SWO lt) (d : Array α) (a m b mid s0 r0 i fin : Nat) (hs0 : a ≤ s0) (hr0 : r0 ≤ m) (hs1 : mid + m ≤ s0 + b) (hr1 : r0 ≤ mid) (hcase : (s0 + b = mid + m ∧ r0 = mid) ∨ (s0 = a ∧ r0 = m))
    (hl : SortedIn lt a m d) (hr : SortedIn lt m b d) (h1 : s0 ≤ i) (h2 : i ≤ r0) (h3 : i + fin = mid + m) (h4 : ∀ t, s0 ≤ t → t < i → lt d[mid + m - 1 - t]! d[t]! = false) (h5 : ∀ t, i ≤ t → t < r0 → lt d[mid + m - 1 - t]! d[t]! = true) :
    (∀ t u, a ≤ t → t < i → fin ≤ u → u < b → lt d[u]! d[t]! = false) ∧ (∀ t u, i ≤ t → t < m → m ≤ u → u < fin → lt d[t]! d[u]! = false) := by
  have le : ∀ p q, a ≤ p → p ≤ q → q < m → lt d[q]! d[p]! = false := fun p q hp hpq hq => by
    by_cases e : p = q
    · rw [e]; exact hS.irrefl _
    · exact hl p q hp (by omega) hq
  have re : ∀ p q, m ≤ p → p ≤ q → q < b → lt d[q]! d[p]! = false := fun p q hp hpq hq => by
    by_cases e : p = q
    · rw [e]; exact hS.irrefl _
    · exact hr p q hp (by omega) hq
  refine ⟨fun t u ht ht' hu hu' => ?_, fun t u ht ht' hu hu' => ?_⟩
  · by_cases hi : s0 < i
    · have := h4 (i - 1) (by omega) (by omega)
      rw [show mid + m - 1 - (i - 1) = fin by omega] at this
      exact hS.ntrans _ _ _ (re fin u (by omega) hu hu') (hS.ntrans _ _ _ this (le t (i - 1) ht (by omega) (by omega)))
    · rcases hcase with h | h <;> omega
  · by_cases hi : i < r0
    · have := h5 i (Nat.le_refl _) hi
      rw [show mid + m - 1 - i = fin - 1 by omega] at this
      exact hS.ntrans _ _ _ (le i t (by omega) ht ht') (hS.ntrans _ _ _ (hS.asymmA this) (re u (fin - 1) hu (by omega) (by omega)))
    · rcases hcase with h | h <;> omega
end Go.Proofs.YtnlnmbcaongehaaGreatDoor
