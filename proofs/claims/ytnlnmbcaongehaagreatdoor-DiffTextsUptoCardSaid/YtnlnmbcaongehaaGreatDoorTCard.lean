/- DiffTexts: the inverse, the fields and the report of any changes are the specified ones; the inverse of the inverse is the list itself. Conditions: the arguments hold together at most 1048576 values and letters (the second form); the library's tables are as their text lays them (the card ties them). -/
import Derived.Test.YtnlnmbcaongehaaGreatDoorCards
import Derived.Test.YtnlnmbcaongehaaGreatDoorTie
import Derived.Test.YtnlnmbcaongehaaGreatDoorT04
import Derived.Test.YtnlnmbcaongehaaGreatDoorT06
import Derived.Test.YtnlnmbcaongehaaGreatDoorT00
import Derived.Test.YtnlnmbcaongehaaGreatDoorBase09
set_option linter.unusedVariables false
set_option linter.unusedSimpArgs false
namespace Go.Proofs.YtnlnmbcaongehaaGreatDoor
open Go.RowKit
theorem flat_keeps {α : Type} : Keeps (Flat (α := α)) := fun _ _ _ _ _ => trivial
theorem chgEq_c {x y : Chg} (h : x.c = y.c) : chgEq x y = true := by
  simp only [Chg.c, ChgC.mk.injEq] at h
  obtain ⟨h1, h2, h3, h4, h5, h6, h7, h8, h9, h10, h11, h12, h13⟩ := h
  unfold chgEq
  rw [h1, h2, h3, h4, h5, h6, h7, h8, h9, h12, h13, evEq_c _ _ h10, evEq_c _ _ h11, hdEq_refl, hdEq_refl, regEq_refl, regEq_refl, cmEq_refl, cmEq_refl]
  simp
theorem allEq_chg : ∀ xs ys : List Chg, xs.map Chg.c = ys.map Chg.c → Lib.allEq chgEq xs ys = true
  | [], [], _ => by rw [Lib.allEq]
  | [], y :: l, h => by simp at h
  | x :: l, [], h => by simp at h
  | x :: l, y :: m, h => by
    simp only [List.map_cons, List.cons.injEq] at h
    rw [Lib.allEq, chgEq_c h.1, allEq_chg l m h.2]
    rfl
theorem full_fits {x : Chg} (h : x.c.full) : x.fits := by
  obtain ⟨_, _, _, _, _, h1, h2, _⟩ := h
  have e1 : x.oe.fits := (Ev.fits_c _).1 h1
  have e2 : x.ne.fits := (Ev.fits_c _).1 h2
  exact ⟨⟨e1.2.2.2.2.2.2.2.2, fun r hr => (e1.2.2.2.2.2.2.2.1 r hr).2.1⟩, ⟨e2.2.2.2.2.2.2.2.2, fun r hr => (e2.2.2.2.2.2.2.2.1 r hr).2.1⟩⟩
/-- What Invert hands back, its length told. -/
def InvTo2 (L : List ChgC) (n : Nat) (w : World) (e : Ending) (w' : World) : Prop :=
  ∃ (A : Option Addr) (ys : List Chg) (c : Nat), e = .returned (.slice A n c) ∧ ChgAt w' A ys ∧ ys.map Chg.c = L ∧ ys.length = n ∧ Below w.heap.size w w'
theorem InvTo2.of {xs : List Chg} {w : World} {e : Ending} {w' : World} (h : InvPost xs w e w') : InvTo2 (invL (xs.map Chg.c)) xs.length w e w' := by
  obtain ⟨A, ys, c, rfl, h1, h2, h3⟩ := h
  have hn : ys.length = xs.length := by
    have := congrArg List.length h2
    unfold invL at this
    simpa using this
  exact ⟨A, ys, c, by rw [hn], h1, h2, hn, h3⟩
theorem evok_fits {x : Ev} (h : x.rows.length ≤ 4000000 ∧ ∀ r ∈ x.rows, r.runs.length ≤ 4000000) : EvOk x.c := ⟨by rw [Ev.c]; simpa using h.1, fun r hr => by
  obtain ⟨q, hq, rfl⟩ := List.mem_map.1 hr
  exact h.2 q hq⟩
theorem fits_of_c {x y : Chg} (h : y.c = invC x.c) (hf : x.fits) : y.fits := by
  have h1 : y.oe.c = x.ne.c := congrArg ChgC.oe h
  have h2 : y.ne.c = x.oe.c := congrArg ChgC.ne h
  exact ⟨evc_fits (x := y.oe) h1 (evok_fits hf.2), evc_fits (x := y.ne) h2 (evok_fits hf.1)⟩
theorem names_small (c : Chg) : ∀ f ∈ fieldsOf c, f.name.size ≤ 8 := by
  intro f hf
  unfold fieldsOf at hf
  split at hf
  · simp only [List.mem_cons, List.not_mem_nil, or_false] at hf
    rcases hf with rfl | rfl | rfl | rfl <;> (dsimp only; decide)
  · split at hf
    · simp only [List.mem_cons, List.not_mem_nil, or_false] at hf
      rcases hf with rfl | rfl | rfl <;> (dsimp only; decide)
    · split at hf
      · simp only [List.mem_cons, List.not_mem_nil, or_false] at hf
        rcases hf with rfl | rfl | rfl | rfl | rfl <;> (dsimp only; decide)
      · split at hf
        · simp only [List.mem_cons, List.not_mem_nil, or_false] at hf
          rcases hf with rfl | rfl | rfl | rfl <;> (dsimp only; decide)
        · simp at hf
theorem tailB_small : ∀ (ws : List ByteArray), (∀ x ∈ ws, x.size ≤ 8) → (tailB ws).length ≤ 9 * ws.length
  | [], _ => by simp [tailB, Lib.joinTail]
  | x :: ws, h => by
    have ih := tailB_small ws fun y hy => h y (List.mem_cons_of_mem _ hy)
    have hx := h x List.mem_cons_self
    have : tailB (x :: ws) = ([32] ++ x.data.toList) ++ tailB ws := by unfold tailB Lib.joinTail; simp
    rw [this]
    simp only [List.length_append, ← size_list, List.length_cons, List.length_nil]
    omega
theorem line_small (x : Chg) (h0 : i64 x.id) (hn : x.name.size ≤ 4000000) : (lineB x).length ≤ 4001000 := by
  rw [line_mark]
  simp only [List.length_append, ← size_list, List.length_cons, List.length_nil]
  have h1 := placeOf_size x.sec x.id x.name h0.1 h0.2 hn
  have h2 : (markB x.added x.gone).size ≤ 6 := by
    unfold markB
    split
    · decide
    · split <;> decide
  have h3 := tailB_small (fieldNames x) (fun y hy => by
    unfold fieldNames at hy
    split at hy
    · simp at hy
    · obtain ⟨f, hf, rfl⟩ := List.mem_map.1 hy
      exact names_small x f (List.mem_filter.1 hf).1)
  have h4 := fieldNames_le x
  omega
theorem text_small : ∀ (xs : List Chg), (∀ x ∈ xs, i64 x.id ∧ x.name.size ≤ 4000000) → (textB xs).length ≤ 4001000 * xs.length
  | [], _ => by simp [textB]
  | x :: xs, h => by
    have ih := text_small xs fun y hy => h y (List.mem_cons_of_mem _ hy)
    have hx := line_small x (h x List.mem_cons_self).1 (h x List.mem_cons_self).2
    unfold textB at ih ⊢
    rw [List.flatMap_cons, List.length_append, List.length_cons]
    omega
set_option maxRecDepth 100000 in
set_option maxHeartbeats 6400000 in
theorem lawTexts_calls (Aw : World → Prop) (HAW : ∀ w, Aw w → Calls Tryz.prog 10 #[] w (fun e w' => e = .returned (.bool true) ∧ Below w.heap.size w w')) (hAB : ∀ w w', Aw w → Below w.heap.size w w' → Aw w') (HTB : ∀ w, Aw w → Lib.TabIs Tryz.prog w "internal/strconv.uint64pow10" .u64 Lib.pow10Tab) (a : Option Addr) (cap : Nat) (xs : List Chg) (w : World) (hA : Aw w) (hx : ChgAt w a xs) (hc : ∀ x ∈ xs, x.c.full) (hl : xs.length ≤ 2000000) :
    Calls Tryz.prog 6 #[.slice a xs.length cap] w fun e w' => e = .returned (.bool true) ∧ Below w.heap.size w w' := by
  generalize hQ : (fun (e : Ending) (w' : World) => e = .returned (.bool true) ∧ Below w.heap.size w w') = Q
  have HQ := Lib.hid (fun w' (hb : Below w.heap.size w w') => show Q (.returned (.bool true)) w' from hQ ▸ ⟨rfl, hb⟩)
  clear hQ
  have hff : ∀ x ∈ xs, x.fits := fun x hx => full_fits (hc x hx)
  have hid : ∀ x ∈ xs, i64 x.id ∧ x.name.size ≤ 4000000 := fun x hx => ⟨(hc x hx).2.1, (hc x hx).2.2.1⟩
  have htx : (textB xs).length ≤ 140737488355328 := by
    have := text_small xs hid
    have : 4001000 * xs.length ≤ 4001000 * 2000000 := Nat.mul_le_mul_left _ hl
    omega
  have HA := Lib.hid (fun (w1 : World) (h : Below w.heap.size w w1) => HAW w1 (hAB w w1 hA h))
  have HX := Lib.hid (fun (w1 : World) (h : Below w.heap.size w w1) => SliceOf.keeps Chg.keeps _ _ _ _ h hx)
  have H19 := Lib.hid (fun (x : Chg) (w1 : World) (hx : x ∈ xs) (hl : x.lies w1) => fields_calls x w1 (fun w2 hb => flds_calls x w2 (Chg.keeps _ _ _ hb hl) (hff x hx).1.2 (hff x hx).2.2 (hff x hx).1.1))
  have H20 := Lib.hid (fun (x : Chg) (w1 : World) (hx : x ∈ xs) (hl : x.lies w1) => refFields_calls x w1 hl (hff x hx).1.2 (hff x hx).2.2 (hff x hx).1.1)
  have HFL := Lib.hid fieldNames_le
  have HI := Lib.hid (fun (w1 : World) (h : Below w.heap.size w w1) => (show Calls Tryz.prog 17 #[.slice a xs.length cap] w1 (InvTo2 (invL (xs.map Chg.c)) xs.length w1) from (invert_calls a cap xs w1 (HX.out w1 h) hff (by omega)).mono fun e w' p => InvTo2.of p))
  have HRI := Lib.hid (fun (w1 : World) (h : Below w.heap.size w w1) => (show Calls Tryz.prog 21 #[.slice a xs.length cap] w1 (InvTo2 (invL (xs.map Chg.c)) xs.length w1) from (refInvert_calls a cap xs w1 (HX.out w1 h) hff (by omega)).mono fun e w' p => InvTo2.of p))
  have hyf : ∀ ys : List Chg, ys.map Chg.c = invL (xs.map Chg.c) → (∀ y ∈ ys, y.fits) ∧ ys.length = xs.length := fun ys h => ⟨fun y hy => by
    have hm : y.c ∈ invL (xs.map Chg.c) := h ▸ List.mem_map.2 ⟨y, hy, rfl⟩
    obtain ⟨c, hc', e⟩ := mem_invL.1 hm
    obtain ⟨x, hx', rfl⟩ := List.mem_map.1 hc'
    exact fits_of_c e.symm (hff x hx'), by
    have := congrArg List.length h
    unfold invL at this
    simpa using this⟩
  have HII := Lib.hid (fun (A : Option Addr) (c : Nat) (ys : List Chg) (w1 : World) (hy : ChgAt w1 A ys) (he : ys.map Chg.c = invL (xs.map Chg.c)) => (show Calls Tryz.prog 17 #[.slice A xs.length c] w1 (InvTo2 (xs.map Chg.c) xs.length w1) from by
    have hn := (hyf ys he).2
    have := (invert_calls A c ys w1 hy (hyf ys he).1 (by omega)).mono fun e w' p => InvTo2.of p
    rw [he, invL_invL, hn] at this
    exact this))
  have HS1 := Lib.hid (fun (A A' : Option Addr) (c c' : Nat) (ys zs : List Chg) (w1 : World) (hy : ChgAt w1 A ys) (hz : ChgAt w1 A' zs) (he : ys.map Chg.c = invL (xs.map Chg.c)) (he' : zs.map Chg.c = invL (xs.map Chg.c)) => (show Calls Tryz.prog 13 #[.slice A xs.length c, .slice A' xs.length c'] w1 (fun e w' => e = .returned (.bool true) ∧ Below w1.heap.size w1 w') from by
    have := refChgs_calls A A' c c' ys zs w1 hy hz (hyf ys he).1 (hyf zs he').1 (by have := (hyf ys he).2; omega) (by have := (hyf zs he').2; omega)
    rw [(hyf ys he).2, (hyf zs he').2, allEq_chg _ _ (he.trans he'.symm)] at this
    exact this))
  have HS2 := Lib.hid (fun (A : Option Addr) (c : Nat) (vs : List Chg) (w1 : World) (h : Below w.heap.size w w1) (hv : ChgAt w1 A vs) (he : vs.map Chg.c = xs.map Chg.c) => (show Calls Tryz.prog 13 #[.slice A xs.length c, .slice a xs.length cap] w1 (fun e w' => e = .returned (.bool true) ∧ Below w1.heap.size w1 w') from by
    have hn : vs.length = xs.length := by simpa using congrArg List.length he
    have hvf : ∀ v ∈ vs, v.fits := fun v hv => by
      obtain ⟨x, hx', e⟩ := List.mem_map.1 (show v.c ∈ xs.map Chg.c from he ▸ List.mem_map.2 ⟨v, hv, rfl⟩)
      exact ⟨evc_fits (x := v.oe) (congrArg ChgC.oe e).symm (evok_fits (hff x hx').1), evc_fits (x := v.ne) (congrArg ChgC.ne e).symm (evok_fits (hff x hx').2)⟩
    have := refChgs_calls A a c cap vs xs w1 hv (HX.out w1 h) hvf hff (by omega) (by omega)
    rw [hn, allEq_chg _ _ he] at this
    exact this))
  have HT1 := Lib.hid (fun (w1 : World) (h : Below w.heap.size w w1) => text_calls a cap xs w1 (HX.out w1 h) (by omega) (fun x hx => (hid x hx).1) htx (HTB w1 (hAB w w1 hA h)) (fun x w2 hx' _ _ hb hl => H19.out x w2 hx' hl))
  have HT2 := Lib.hid (fun (w1 : World) (h : Below w.heap.size w w1) => refText_calls a cap xs w1 (HX.out w1 h) (by omega) hid htx (fun x w2 hx' hl => H20.out x w2 hx' hl))
  have HS3 := Lib.hid (fun (w1 : World) (h : Below w.heap.size w w1) => (show Calls Tryz.prog 24 #[.slice a xs.length cap, .slice a xs.length cap] w1 (fun e w' => e = .returned (.bool true) ∧ Below w1.heap.size w1 w') from by
    have := diffSame_calls a a cap cap xs xs w1 (HX.out w1 h) (HX.out w1 h) hff hff (by omega) (by omega)
    rw [allEq_chg _ _ rfl] at this
    exact this))
  have HS4 := Lib.hid (fun (A : Option Addr) (c : Nat) (ys : List Chg) (w1 : World) (h : Below w.heap.size w w1) (hy : ChgAt w1 A ys) (he : ys.map Chg.c = invL (xs.map Chg.c)) => (show Calls Tryz.prog 24 #[.slice a xs.length cap, .slice A xs.length c] w1 (fun e w' => e = .returned (.bool (Lib.allEq chgEq xs ys)) ∧ Below w1.heap.size w1 w') from by
    have := diffSame_calls a A cap c xs ys w1 (HX.out w1 h) hy hff (hyf ys he).1 (by omega) (by have := (hyf ys he).2; omega)
    rw [(hyf ys he).2] at this
    exact this))
  have HS5 := Lib.hid (fun (A : Option Addr) (c : Nat) (ys : List Chg) (w1 : World) (h : Below w.heap.size w w1) (hy : ChgAt w1 A ys) (he : ys.map Chg.c = invL (xs.map Chg.c)) => (show Calls Tryz.prog 13 #[.slice a xs.length cap, .slice A xs.length c] w1 (fun e w' => e = .returned (.bool (Lib.allEq chgEq xs ys)) ∧ Below w1.heap.size w1 w') from by
    have := refChgs_calls a A cap c xs ys w1 (HX.out w1 h) hy hff (hyf ys he).1 (by omega) (by have := (hyf ys he).2; omega)
    rw [(hyf ys he).2] at this
    exact this))
  generalize (⟨(textB xs).toArray⟩ : ByteArray) = TX at *
  generalize invL (xs.map Chg.c) = IL at *
  have HUP := Lib.hid (fun (w1 w2 : World) (h : Below w.heap.size w w1) (h2 : Below w1.heap.size w1 w2) => h.trans (h2.mono h.size))
  have hb0 : Below w.heap.size w w := Below.refl _ _
  clear hyf hff hid htx HTB hAB HAW hA hx hc
  go_enter Tryz.func6, Tryz.ntmps6
  go_wp2_with fail
  refine (HA.out _ hb0).mono ?_
  rintro e w1 ⟨rfl, hb1⟩
  have hc1 := HUP.out _ _ hb0 hb1
  clear hb1 HA hb0
  go_wp2_with fail
  go_loopw [13] (fun i wr => ∃ k : Nat, k ≤ xs.length ∧ i = .int .i64 k ∧ Below w.heap.size w wr) (fun i _ => xs.length - (intOf i).toNat)
  case atStart => exact ⟨0, by omega, rfl, hc1⟩
  case round =>
    clear hc1
    obtain ⟨k, hk, rfl, hb⟩ := hrel
    by_cases hlt : k < xs.length
    · obtain ⟨b, off, x, rfl, hbl, hxk, hcx, hxl⟩ := (HX.out wr hb).at_ hlt
      have hmem := List.mem_of_getElem? hxk
      have HF19 := Lib.hid (fun (w1 : World) (h : Below wr.heap.size wr w1) => H19.out x w1 hmem (Chg.keeps _ _ _ h hxl))
      have HF20 := Lib.hid (fun (w1 : World) (h : Below wr.heap.size wr w1) => H20.out x w1 hmem (Chg.keeps _ _ _ h hxl))
      have hfl := HFL.out x
      have R1 := Lib.hid (show wr.rangeAt b (off + k * 59) x.enc from fun q v e => hcx q v e)
      have HSX := Lib.hid (show (Tryz.prog.info? 54).map (·.size) = some x.enc.length by rw [chgSize, Chg.len])
      have HIX := Lib.hid (show (Tryz.prog.info? 54).map (·.size) = some x.enc.toArray.size by rw [chgSize, List.size_toArray, Chg.len])
      have HLX := Lib.hid (show x.enc.toArray.size = 59 by rw [List.size_toArray, Chg.len])
      have HOX := Lib.hid (one_all (Chg.one x))
      have HBR := Lib.hid hb
      generalize fieldNames x = FN at *
      generalize x.enc = xe at *
      clear hcx hxl hxk hmem hb
      go_upto_region 6 with (first
        | (refine wpList_load_mid rfl 54 (.tmp 15) rfl b (off + k * 59) rfl xe _ R1.out Tryz.underlying54 rfl HSX.out ?_)
        | (refine wpList_store_row rfl 54 (.tmp 4) (.tmp 16) rfl wr.heap.size xe.toArray rfl rfl 54 _ (heap_alloc_last wr _) HIX.out HLX.out.symm HOX.out ?_; rw [World.setRow_alloc_new]))
      have hbA : Below wr.heap.size wr (wr.alloc (.cells xe.toArray 54)) := (Below.refl _ _).alloc (Nat.le_refl _) _
      have hkA := heap_alloc_last wr (.cells xe.toArray 54)
      have hsA : (wr.alloc (.cells xe.toArray 54)).heap.size = wr.heap.size + 1 := World.size_alloc _ _
      generalize wr.alloc (.cells xe.toArray 54) = WA at *
      have HRX := Lib.hid (fun (w1 : World) (h : Below (wr.heap.size + 1) WA w1) => range_row ((h.block wr.heap.size (by omega)).trans hkA))
      have HDN := Lib.hid (fun (w1 : World) (h : Below (wr.heap.size + 1) WA w1) => (show Below wr.heap.size wr w1 from hbA.trans (h.mono (by omega))))
      have HT6 := Lib.hid (fun (w2 w3 : World) (h : Below (wr.heap.size + 1) WA w2) (h3 : Below w2.heap.size w2 w3) => (h.trans (h3.mono (by have := h.size; omega)) : Below (wr.heap.size + 1) WA w3))
      have HF19 := Lib.hid (fun (w1 : World) (h : Below (wr.heap.size + 1) WA w1) => HF19.out w1 (HDN.out w1 h))
      have HF20 := Lib.hid (fun (w1 : World) (h : Below (wr.heap.size + 1) WA w1) => HF20.out w1 (HDN.out w1 h))
      have hs0 : Below (wr.heap.size + 1) WA WA.drew := (Below.refl _ _).drew
      clear hbA hkA hsA R1 HIX HLX HOX
      refine wp_region_held_drew (S := fun w' => Below (wr.heap.size + 1) WA w') (by kernel_rfl) hs0 (fun _ => ?_)
      try simp only [Act.put, List.getElem_toArray, List.getElem_cons_zero, List.getElem_cons_succ, List.setIfInBounds_toArray, List.set_cons_zero, List.set_cons_succ, Array.toArray_toList]
      refine wpAnyH_take (i := 0) (v := .agg xe.toArray) rfl (by kernel_rfl) (by kernel_rfl) (by kernel_rfl) (fun _ _ _ h => h) (yieldsIf_load_mid (by rfl) 54 (.tmp 4) rfl wr.heap.size 0 rfl xe _ HRX.out Tryz.underlying54 rfl HSX.out) hs0 ?_
      try simp only [Act.put, List.getElem_toArray, List.getElem_cons_zero, List.getElem_cons_succ, List.setIfInBounds_toArray, List.set_cons_zero, List.set_cons_succ, Array.toArray_toList]
      refine wpAnyH_take (i := 2) (v := .agg xe.toArray) rfl (by kernel_rfl) (by kernel_rfl) (by kernel_rfl) (fun _ _ _ h => h) (yieldsIf_load_mid (by rfl) 54 (.tmp 4) rfl wr.heap.size 0 rfl xe _ HRX.out Tryz.underlying54 rfl HSX.out) hs0 ?_
      try simp only [Act.put, List.getElem_toArray, List.getElem_cons_zero, List.getElem_cons_succ, List.setIfInBounds_toArray, List.set_cons_zero, List.set_cons_succ, Array.toArray_toList]
      refine wpAnyH_ready (rs := [1]) (by kernel_rfl) (by simp) ?_
      refine AllReadyH.cons rfl (fun K hK => ?_) AllReadyH.nil
      go_simp
      refine (HF19.out _ hs0).mono ?_
      rintro e v1 ⟨v, rfl, hv, hb1⟩
      obtain ⟨av, cv, rfl, hS1⟩ := strs_slice hv
      have hs1 := HT6.out _ _ hs0 hb1
      have HS1 := Lib.hid hS1
      clear hv hS1 hb1
      go_wp2_with fail
      refine hK.out _ _ hs1 (fun _ => ?_)
      clear hK
      try simp only [Act.put, List.getElem_toArray, List.getElem_cons_zero, List.getElem_cons_succ, List.setIfInBounds_toArray, List.set_cons_zero, List.set_cons_succ, Array.toArray_toList]
      refine wpAnyH_ready (rs := [3]) (by kernel_rfl) (by simp) ?_
      refine AllReadyH.cons rfl (fun K hK => ?_) AllReadyH.nil
      go_simp
      refine (HF20.out _ hs1).mono ?_
      rintro e v2 ⟨v, rfl, hv, hb2⟩
      obtain ⟨av2, cv2, rfl, hS2⟩ := strs_slice hv
      have hs2 := HT6.out _ _ hs1 hb2
      have HS2 := Lib.hid hS2
      have HS1 := Lib.hid (SliceOf.keeps flat_keeps _ _ _ _ hb2 HS1.out)
      clear hv hS2 hb2
      go_wp2_with fail
      refine hK.out _ _ hs2 (fun _ => ?_)
      clear hK
      try simp only [Act.put, List.getElem_toArray, List.getElem_cons_zero, List.getElem_cons_succ, List.setIfInBounds_toArray, List.set_cons_zero, List.set_cons_succ, Array.toArray_toList]
      refine wpAnyH_take (i := 4) (v := .slice av FN.length cv) rfl (by kernel_rfl) (by kernel_rfl) (by kernel_rfl) (fun _ _ _ h => h) (.inl ⟨by rfl, fun w_ hS_ => by go_simp⟩) hs2 ?_
      try simp only [Act.put, List.getElem_toArray, List.getElem_cons_zero, List.getElem_cons_succ, List.setIfInBounds_toArray, List.set_cons_zero, List.set_cons_succ, Array.toArray_toList]
      refine wpAnyH_take (i := 5) (v := .slice av2 FN.length cv2) rfl (by kernel_rfl) (by kernel_rfl) (by kernel_rfl) (fun _ _ _ h => h) (.inl ⟨by rfl, fun w_ hS_ => by go_simp⟩) hs2 ?_
      try simp only [Act.put, List.getElem_toArray, List.getElem_cons_zero, List.getElem_cons_succ, List.setIfInBounds_toArray, List.set_cons_zero, List.set_cons_succ, Array.toArray_toList]
      refine wpAnyH_done (by kernel_rfl) ?_ _
      skip
      have HB2 := Lib.hid (HUP.out _ _ HBR.out (HDN.out _ hs2))
      clear hs0 hs1 hs2 HF19 HF20 HRX HT6 HDN HSX
      go_wp2_with fail
      go_loopw [28] (fun i wq => ∃ j : Nat, j ≤ FN.length ∧ i = .int .i64 j ∧ Below v2.heap.size v2 wq) (fun i _ => FN.length - (intOf i).toNat)
      case atStart => exact ⟨0, by omega, rfl, Below.refl _ _⟩
      case round =>
        obtain ⟨j, hj, rfl, hbq⟩ := hrel
        by_cases hjl : j < FN.length
        · obtain ⟨b2, off2, y, rfl, hbl2, hyk, hcy, _⟩ := (SliceOf.keeps flat_keeps _ _ _ _ hbq HS1.out).at_ hjl
          obtain ⟨b3, off3, y3, rfl, hbl3, hyk3, hcy3, _⟩ := (SliceOf.keeps flat_keeps _ _ _ _ hbq HS2.out).at_ hjl
          obtain rfl : y = y3 := Option.some.inj (hyk.symm.trans hyk3)
          have cy := hcy 0 (.string y) rfl
          have cy3 := hcy3 0 (.string y) rfl
          simp only [Nat.mul_one, Nat.add_zero] at cy cy3
          have HWN := Lib.hid (fun n => Go.below_drewN hbq n)
          clear hcy hcy3 hyk hyk3 hbq
          go_upto_region 12 with fail
          go_quiet (fail)
          go_wp2_with fail
          go_roundw
          case rel => exact ⟨j + 1, by omega, by go_num, HWN.out _⟩
          case measure => first | (simp [intOf]; done) | (simp [intOf]; omega)
        · obtain rfl : j = FN.length := by omega
          have HE := Lib.hid (HUP.out _ _ HB2.out hbq)
          clear hbq
          go_wp2_with fail
          go_roundw
          case rel => exact ⟨k + 1, by omega, by go_num, HE.out⟩
          case measure => first | (simp [intOf]; done) | (simp [intOf]; omega)
    · obtain rfl : k = xs.length := by omega
      clear H19 H20 HFL
      have q0 := hb
      clear hb
      go_wp2_with fail
      refine (HI.out _ q0).mono ?_
      rintro e v1 ⟨A1, ys, c1, rfl, hy, hye, hyn, hb1⟩
      have q1 := HUP.out _ _ q0 hb1
      have HY := Lib.hid hy; have HYE := Lib.hid hye
      have HU1 := Lib.hid (fun (wa wb : World) (h : Below v1.heap.size v1 wa) (h2 : Below wa.heap.size wa wb) => (h.trans (h2.mono h.size) : Below v1.heap.size v1 wb))
      have k1 : Below v1.heap.size v1 v1 := Below.refl _ _
      clear hb1 hy hye hyn q0
      go_wp2_with fail
      refine (HRI.out _ q1).mono ?_
      rintro e v2 ⟨A2, zs, c2, rfl, hz, hze, hzn, hb2⟩
      have q2 := HUP.out _ _ q1 hb2
      have k2 := HU1.out _ _ k1 hb2
      have HC2 := Lib.hid (HS1.out A1 A2 c1 c2 ys zs v2 (SliceOf.keeps Chg.keeps _ _ _ _ k2 HY.out) hz HYE.out hze)
      clear hb2 hz hze hzn q1 k1 HRI HS1
      go_wp2_with fail
      refine HC2.out.mono ?_
      rintro e v3 ⟨rfl, hb3⟩
      have q3 := HUP.out _ _ q2 hb3
      have k3 := HU1.out _ _ k2 hb3
      clear hb3 q2 k2 HC2
      go_wp2_with fail
      refine (HII.out A1 c1 ys v3 (SliceOf.keeps Chg.keeps _ _ _ _ k3 HY.out) HYE.out).mono ?_
      rintro e v4 ⟨A4, vs, c4, rfl, hv, hve, hvn, hb4⟩
      have q4 := HUP.out _ _ q3 hb4
      have k4 := HU1.out _ _ k3 hb4
      have HC4 := Lib.hid (HS2.out A4 c4 vs v4 q4 hv hve)
      clear hb4 hv hve hvn q3 k3 HII HS2
      go_wp2_with fail
      refine HC4.out.mono ?_
      rintro e v5 ⟨rfl, hb5⟩
      have q5 := HUP.out _ _ q4 hb5
      have k5 := HU1.out _ _ k4 hb5
      clear hb5 q4 k4 HC4
      go_wp2_with fail
      refine (HT1.out _ q5).mono ?_
      rintro e v6 ⟨rfl, hb6⟩
      have q6 := HUP.out _ _ q5 hb6
      have k6 := HU1.out _ _ k5 hb6
      clear hb6 q5 k5 HT1
      go_wp2_with fail
      refine (HT2.out _ q6).mono ?_
      rintro e v7 ⟨rfl, hb7⟩
      have q7 := HUP.out _ _ q6 hb7
      have k7 := HU1.out _ _ k6 hb7
      clear hb7 q6 k6 HT2
      go_wp2_with fail
      refine (HS3.out _ q7).mono ?_
      rintro e v8 ⟨rfl, hb8⟩
      have q8 := HUP.out _ _ q7 hb8
      have k8 := HU1.out _ _ k7 hb8
      clear hb8 q7 k7 HS3
      go_wp2_with fail
      refine (HS4.out A1 c1 ys v8 q8 (SliceOf.keeps Chg.keeps _ _ _ _ k8 HY.out) HYE.out).mono ?_
      rintro e v9 ⟨rfl, hb9⟩
      have q9 := HUP.out _ _ q8 hb9
      have k9 := HU1.out _ _ k8 hb9
      have HC9 := Lib.hid (HS5.out A1 c1 ys v9 q9 (SliceOf.keeps Chg.keeps _ _ _ _ k9 HY.out) HYE.out)
      generalize Lib.allEq chgEq xs ys = EQ at *
      clear hb9 q8 k8 HS4 HS5
      go_wp2_with fail
      refine HC9.out.mono ?_
      rintro e v10 ⟨rfl, hb10⟩
      have HE := Lib.hid (HQ.out _ (HUP.out _ _ q9 hb10))
      clear hb10 q9 k9 HC9
      cases EQ with
      | true =>
        go_wp2_with fail
        exact HE.out
      | false =>
        go_wp2_with fail
        exact HE.out
end Go.Proofs.YtnlnmbcaongehaaGreatDoor
namespace Go.Proofs.YtnlnmbcaongehaaGreatDoor
open Go.RowKit Go.ChangeShapes Go.WideShapes Go.Deep
theorem list13 {α : Type} {l : List α} (h : l.length = 13) : ∃ a0 a1 a2 a3 a4 a5 a6 a7 a8 a9 a10 a11 a12, l = [a0, a1, a2, a3, a4, a5, a6, a7, a8, a9, a10, a11, a12] := by
  obtain _ | ⟨a0, l⟩ := l
  · simp at h
  obtain _ | ⟨a1, l⟩ := l
  · simp at h
  obtain _ | ⟨a2, l⟩ := l
  · simp at h
  obtain _ | ⟨a3, l⟩ := l
  · simp at h
  obtain _ | ⟨a4, l⟩ := l
  · simp at h
  obtain _ | ⟨a5, l⟩ := l
  · simp at h
  obtain _ | ⟨a6, l⟩ := l
  · simp at h
  obtain _ | ⟨a7, l⟩ := l
  · simp at h
  obtain _ | ⟨a8, l⟩ := l
  · simp at h
  obtain _ | ⟨a9, l⟩ := l
  · simp at h
  obtain _ | ⟨a10, l⟩ := l
  · simp at h
  obtain _ | ⟨a11, l⟩ := l
  · simp at h
  obtain _ | ⟨a12, l⟩ := l
  · simp at h
  obtain _ | ⟨b, l⟩ := l
  · exact ⟨a0, a1, a2, a3, a4, a5, a6, a7, a8, a9, a10, a11, a12, rfl⟩
  · simp at h
theorem cut_at (cs : List Value) (off k : Nat) : cs.drop off = (cs.drop off).take k ++ cs.drop (off + k) := by
  rw [← List.drop_drop]
  exact (List.take_append_drop k _).symm
section
variable {H : Type} {enc : TypeId × Value → H} {w : World} {base : Nat} {sp : Nat → Bool} {held : Bool}
theorem c39 : Tryz.prog.cellsOf 39 = 1 := by kernel_rfl
theorem c41 : Tryz.prog.cellsOf 41 = 5 := by kernel_rfl
theorem c54 : Tryz.prog.cellsOf 54 = 59 := by kernel_rfl
theorem read_hd : Reads enc w base sp held 41 Hd.enc Flat Hd.fits (fun _ => 0) := by
  intro fuel cs x h hb
  obtain ⟨ys, n, rfl, hx, hlen, hyl, hf⟩ := DataW.trod_struct Tryz.underlying41 h
  rw [c41] at hlen
  obtain ⟨v0, v1, v2, v3, v4, rfl⟩ := list5 hlen
  obtain ⟨y0, y1, y2, y3, y4, rfl⟩ := list5 hyl
  have g0 := hf 0 _ rfl; have g1 := hf 1 _ rfl; have g2 := hf 2 _ rfl; have g3 := hf 3 _ rfl; have g4 := hf 4 _ rfl
  simp [c9, c23, c4, c2] at g0 g1 g2 g3 g4
  obtain ⟨s0, e0, q0, _⟩ := DataW.trod_string Tryz.underlying9 g0
  obtain ⟨s1, e1, q1, _⟩ := DataW.trod_string Tryz.underlying9 g1
  obtain ⟨z2, e2, _, w2⟩ := DataW.trod_int Tryz.underlying22 g2
  obtain ⟨z3, e3, _⟩ := DataW.trod_bool Tryz.underlying4 g3
  obtain ⟨z4, e4, _, w4⟩ := DataW.trod_int Tryz.underlying2 g4
  simp at e0 e1 e2 e3 e4
  subst e0 e1 e2 e3 e4
  have k0 := agg_part hx (y := y0) (by simp)
  have k1 := agg_part hx (y := y1) (by simp)
  have l0 := str_size q0
  have l1 := str_size q1
  exact ⟨⟨s0, s1, z2, z3, z4⟩, rfl, trivial, ⟨by simp only; omega, by simp only; omega, (u8_of w2).1, (u8_of w2).2, i64_of w4⟩, Nat.zero_le _⟩
theorem read_chg : Reads enc w base sp held 54 Chg.enc Chg.lies (fun x => x.c.full) (fun _ => 0) := by
  intro fuel cs x h hb
  obtain ⟨ys, n, rfl, hx, hlen, hyl, hf⟩ := DataW.trod_struct Tryz.underlying54 h
  rw [c54] at hlen
  obtain ⟨y0, y1, y2, y3, y4, y5, y6, y7, y8, y9, y10, y11, y12, rfl⟩ := list13 hyl
  have k0 := agg_part hx (y := y0) (by simp)
  have k1 := agg_part hx (y := y1) (by simp)
  have k2 := agg_part hx (y := y2) (by simp)
  have k3 := agg_part hx (y := y3) (by simp)
  have k4 := agg_part hx (y := y4) (by simp)
  have k5 := agg_part hx (y := y5) (by simp)
  have k6 := agg_part hx (y := y6) (by simp)
  have k7 := agg_part hx (y := y7) (by simp)
  have k8 := agg_part hx (y := y8) (by simp)
  have k9 := agg_part hx (y := y9) (by simp)
  have k10 := agg_part hx (y := y10) (by simp)
  have k11 := agg_part hx (y := y11) (by simp)
  have k12 := agg_part hx (y := y12) (by simp)
  have g0 : DataW.trod enc Tryz.prog w base sp held n 39 ((cs.drop 0).take 1) = some y0 := (congrArg (fun q => DataW.trod enc Tryz.prog w base sp held n 39 ((cs.drop 0).take q)) c39).symm.trans (hf 0 _ rfl)
  have g1 : DataW.trod enc Tryz.prog w base sp held n 2 ((cs.drop 1).take 1) = some y1 := (congrArg (fun q => DataW.trod enc Tryz.prog w base sp held n 2 ((cs.drop 1).take q)) c2).symm.trans (hf 1 _ rfl)
  have g2 : DataW.trod enc Tryz.prog w base sp held n 9 ((cs.drop 2).take 1) = some y2 := (congrArg (fun q => DataW.trod enc Tryz.prog w base sp held n 9 ((cs.drop 2).take q)) c9).symm.trans (hf 2 _ rfl)
  have g3 : DataW.trod enc Tryz.prog w base sp held n 4 ((cs.drop 3).take 1) = some y3 := (congrArg (fun q => DataW.trod enc Tryz.prog w base sp held n 4 ((cs.drop 3).take q)) c4).symm.trans (hf 3 _ rfl)
  have g4 : DataW.trod enc Tryz.prog w base sp held n 4 ((cs.drop 4).take 1) = some y4 := (congrArg (fun q => DataW.trod enc Tryz.prog w base sp held n 4 ((cs.drop 4).take q)) c4).symm.trans (hf 4 _ rfl)
  have g5 : DataW.trod enc Tryz.prog w base sp held n 41 ((cs.drop 5).take 5) = some y5 := (congrArg (fun q => DataW.trod enc Tryz.prog w base sp held n 41 ((cs.drop 5).take q)) c41).symm.trans (hf 5 _ rfl)
  have g6 : DataW.trod enc Tryz.prog w base sp held n 41 ((cs.drop 10).take 5) = some y6 := (congrArg (fun q => DataW.trod enc Tryz.prog w base sp held n 41 ((cs.drop 10).take q)) c41).symm.trans (hf 6 _ rfl)
  have g7 : DataW.trod enc Tryz.prog w base sp held n 44 ((cs.drop 15).take 7) = some y7 := (congrArg (fun q => DataW.trod enc Tryz.prog w base sp held n 44 ((cs.drop 15).take q)) c101).symm.trans (hf 7 _ rfl)
  have g8 : DataW.trod enc Tryz.prog w base sp held n 44 ((cs.drop 22).take 7) = some y8 := (congrArg (fun q => DataW.trod enc Tryz.prog w base sp held n 44 ((cs.drop 22).take q)) c101).symm.trans (hf 8 _ rfl)
  have g9 : DataW.trod enc Tryz.prog w base sp held n 50 ((cs.drop 29).take 7) = some y9 := (congrArg (fun q => DataW.trod enc Tryz.prog w base sp held n 50 ((cs.drop 29).take q)) c60).symm.trans (hf 9 _ rfl)
  have g10 : DataW.trod enc Tryz.prog w base sp held n 50 ((cs.drop 36).take 7) = some y10 := (congrArg (fun q => DataW.trod enc Tryz.prog w base sp held n 50 ((cs.drop 36).take q)) c60).symm.trans (hf 10 _ rfl)
  have g11 : DataW.trod enc Tryz.prog w base sp held n 52 ((cs.drop 43).take 8) = some y11 := (congrArg (fun q => DataW.trod enc Tryz.prog w base sp held n 52 ((cs.drop 43).take q)) c116).symm.trans (hf 11 _ rfl)
  have g12 : DataW.trod enc Tryz.prog w base sp held n 52 ((cs.drop 51).take 8) = some y12 := (congrArg (fun q => DataW.trod enc Tryz.prog w base sp held n 52 ((cs.drop 51).take q)) c116).symm.trans (hf 12 _ rfl)
  obtain ⟨z0, e0, _, w0⟩ := DataW.trod_int Tryz.underlying39 g0
  obtain ⟨z1, e1, _, w1⟩ := DataW.trod_int Tryz.underlying2 g1
  obtain ⟨s2, e2, q2, _⟩ := DataW.trod_string Tryz.underlying9 g2
  obtain ⟨z3, e3, _⟩ := DataW.trod_bool Tryz.underlying4 g3
  obtain ⟨z4, e4, _⟩ := DataW.trod_bool Tryz.underlying4 g4
  obtain ⟨oh, e5, _, f5, _⟩ := read_hd _ _ y5 g5 (by omega)
  obtain ⟨nh, e6, _, f6, _⟩ := read_hd _ _ y6 g6 (by omega)
  obtain ⟨rg, e7, _, f7, _⟩ := read_reg _ _ y7 g7 (by omega)
  obtain ⟨nr, e8, _, f8, _⟩ := read_reg _ _ y8 g8 (by omega)
  obtain ⟨oe, e9, l9, f9, _⟩ := read_ev _ _ y9 g9 (by omega)
  obtain ⟨ne, e10, l10, f10, _⟩ := read_ev _ _ y10 g10 (by omega)
  obtain ⟨oc, e11, _, f11, _⟩ := read_cm _ _ y11 g11 (by omega)
  obtain ⟨nc, e12, _, f12, _⟩ := read_cm _ _ y12 g12 (by omega)
  have l2 := str_size q2
  have h0 : cs.drop 0 = (cs.drop 0).take 1 ++ cs.drop 1 := cut_at cs 0 1
  have h1 : cs.drop 1 = (cs.drop 1).take 1 ++ cs.drop 2 := cut_at cs 1 1
  have h2 : cs.drop 2 = (cs.drop 2).take 1 ++ cs.drop 3 := cut_at cs 2 1
  have h3 : cs.drop 3 = (cs.drop 3).take 1 ++ cs.drop 4 := cut_at cs 3 1
  have h4 : cs.drop 4 = (cs.drop 4).take 1 ++ cs.drop 5 := cut_at cs 4 1
  have h5 : cs.drop 5 = (cs.drop 5).take 5 ++ cs.drop 10 := cut_at cs 5 5
  have h6 : cs.drop 10 = (cs.drop 10).take 5 ++ cs.drop 15 := cut_at cs 10 5
  have h7 : cs.drop 15 = (cs.drop 15).take 7 ++ cs.drop 22 := cut_at cs 15 7
  have h8 : cs.drop 22 = (cs.drop 22).take 7 ++ cs.drop 29 := cut_at cs 22 7
  have h9 : cs.drop 29 = (cs.drop 29).take 7 ++ cs.drop 36 := cut_at cs 29 7
  have h10 : cs.drop 36 = (cs.drop 36).take 7 ++ cs.drop 43 := cut_at cs 36 7
  have h11 : cs.drop 43 = (cs.drop 43).take 8 ++ cs.drop 51 := cut_at cs 43 8
  have h12 : cs.drop 51 = (cs.drop 51).take 8 ++ cs.drop 59 := cut_at cs 51 8
  have hend : cs.drop 59 = [] := List.drop_eq_nil_of_le (by omega)
  have e0x : (cs.drop 0).take 1 = [.int .u8 z0] := e0
  have e1x : (cs.drop 1).take 1 = [.int .i64 z1] := e1
  have e2x : (cs.drop 2).take 1 = [.string s2] := e2
  have e3x : (cs.drop 3).take 1 = [.bool z3] := e3
  have e4x : (cs.drop 4).take 1 = [.bool z4] := e4
  have e5x : (cs.drop 5).take 5 = oh.enc := e5
  have e6x : (cs.drop 10).take 5 = nh.enc := e6
  have e7x : (cs.drop 15).take 7 = rg.enc := e7
  have e8x : (cs.drop 22).take 7 = nr.enc := e8
  have e9x : (cs.drop 29).take 7 = oe.enc := e9
  have e10x : (cs.drop 36).take 7 = ne.enc := e10
  have e11x : (cs.drop 43).take 8 = oc.enc := e11
  have e12x : (cs.drop 51).take 8 = nc.enc := e12
  rw [List.drop_zero] at h0
  rw [h1, h2, h3, h4, h5, h6, h7, h8, h9, h10, h11, h12, hend, e1x, e2x, e3x, e4x, e5x, e6x, e7x, e8x, e9x, e10x, e11x, e12x] at h0
  rw [List.drop_zero] at e0x
  rw [e0x] at h0
  refine ⟨⟨z0, z1, s2, z3, z4, oh, nh, rg, nr, oe, ne, oc, nc⟩, ?_, ⟨l9, l10⟩, ⟨(u8_of w0).1, i64_of w1, by show s2.size ≤ 4000000; omega, f6, f8, (Ev.fits_c oe).2 f9, (Ev.fits_c ne).2 f10, f12⟩, Nat.zero_le _⟩
  rw [h0]
  simp [Chg.enc]
/-- A slice of changes. -/
theorem read_chgs (fuel : Nat) (cs : List Value) (x : DataW H × List MemPlace) (h : DataW.trod enc Tryz.prog w base sp held fuel 29 cs = some x) (hb : Rows.uptoBulk x.1 ≤ 1048576) :
    ∃ (a : Option Addr) (xs : List Chg) (cap : Nat), cs = [.slice a xs.length cap] ∧ ChgAt w a xs ∧ (∀ y ∈ xs, y.c.full) ∧ xs.length ≤ Rows.uptoBulk x.1 := by
  obtain ⟨a, xs, cap, e, hS, hF, hL, _⟩ := reads_slice Tryz.underlying29 c54 (by decide) Chg.len read_chg fuel cs x h hb
  exact ⟨a, xs, cap, e, hS, hF, hL⟩
end
end Go.Proofs.YtnlnmbcaongehaaGreatDoor
namespace Go.Proofs.YtnlnmbcaongehaaGreatDoor.diffTexts
open Go.Shelf Go.ChangeShapes Go.WideShapes Go.ChangeAt Go.RowKit Go.Lib
open Go.Proofs.YtnlnmbcaongehaaGreatDoor.diffSeat (own laidOut laidWorld laid_met env_of zd)
theorem bound {H : Type} {l : List (DataW H)} (hk : Rows.uptoSmall H l = true) : Rows.uptoBulkAll l ≤ 1048576 := of_decide_eq_true hk
theorem slice_cap {P : Program} {W : World} {r : Reach} {base len cap : Nat} {t e : TypeId} {a : Option Addr} (ht : P.underlying t = some (.slice e)) (h : Value.okWide P W r base t (.slice a len cap)) : len ≤ cap := by
  simp only [Value.okWide, ht, Cell.okWide] at h
  cases a with
  | none =>
    by_cases hl : len = 0
    · omega
    · obtain ⟨n, rfl⟩ : ∃ n, len = n + 1 := ⟨len - 1, by omega⟩
      simp only [Cell.ok, ht] at h
  | some a => simp only [Cell.ok, ht] at h; exact h.1
def wargs : Array Value := #[.slice none 0 0]
set_option maxRecDepth 100000 in
/-- What the walk gives, for all arguments of small bulk and every world that holds the tables. -/
theorem contract (H : Type) (enc : TypeId × Value → H) (F : Stop.Interp) (W : World) (base : Nat) (args : Array Value) (ds gs : List (DataW H)) (before : List MemPlace)
    (hval : ∀ (j : Nat) t v, Tryz.f6.params[j]? = some t → args[j]? = some v → Value.okWide Tryz.prog W .any base t v)
    (hW : DataW.Whole enc Tryz.prog Tryz.f6.params.toList (Rows.OpenSpec.upto Rows.diffTextsSpec).vars false W args.toList ds gs before) (hk : Rows.uptoSmall H (ds ++ gs) = true) (hE : Aw W) :
    Calls Tryz.prog 6 args W fun e W' => ∃ v, e = .returned v ∧ ((Rows.OpenSpec.upto Rows.diffTextsSpec).at F).post enc Tryz.prog Tryz.f6 false true false false W args v W' := by
  have hW' := hW
  obtain ⟨p, q, hA0, hV, rfl, hfz, hnd⟩ := hW
  have hA : DataW.TrodAll enc Tryz.prog W 0 (fun _ => true) true Tryz.f6.params.toList args.toList ds p := hA0
  rw [Tryz.params6] at hA hval
  obtain ⟨v0, vs0, d0, ds0, p0, q0, hargs, rfl, rfl, h0, r0⟩ := trodAll_cons hA
  obtain ⟨rfl, rfl, rfl⟩ := trodAll_nil r0
  obtain rfl : args = #[v0] := by cases args; simp_all
  obtain ⟨rfl, rfl⟩ := trodVars_none hV
  have hbk := bound hk
  simp only [List.append_nil, Rows.uptoBulkAll] at hbk
  have k0 := h0
  have lt0 : ∀ x ∈ p0, x.block < W.heap.size := by obtain ⟨m, hm⟩ := k0; exact DataW.trod_lt m _ _ _ hm
  obtain ⟨f0, t0⟩ := h0
  obtain ⟨a0, len0, cap0, rfl⟩ := okWide_slice Tryz.underlying29 (hval 0 29 v0 rfl rfl)
  obtain ⟨A0, xs, C0, e0, l0, g0, n0⟩ := read_chgs f0 _ (d0, p0) t0 (by simp only; omega)
  simp [Value.cells] at e0
  obtain ⟨rfl, rfl, rfl⟩ := e0
  clear hA0
  refine (lawTexts_calls Aw awake_calls (fun w w' h hb => h.below hb) (fun w h => h.2) a0 cap0 xs W hE l0 g0 (by simp only at n0; omega)).mono fun e W' ⟨he, bel⟩ => ?_
  subst he
  exact ⟨_, rfl, _, _, _, [], _, [], hW', trodAll_mk1 (shut_bool Tryz.underlying4 _), (trodAll_cons_mk (Below.trod laidOut (by kernel_rfl) (of_decide_eq_true (by kernel_rfl)) k0 bel lt0) trodAll_mk0), rfl, bel.frame _, fun h => by cases h⟩
/-- What a document of zero values reads as. -/
def zdoc {H : Type} : DataW H := .agg [.lit (.string []), .lit (.string []), .lit (.int .u8 0), .lit (.bool false), .lit (.int .i64 0), .nil, .nil, .nil]
theorem wreads (os : Os) {H : Type} (enc : TypeId × Value → H) : ∃ places, DataW.whole enc Tryz.prog ((laidWorld os).forCall (fun _ _ => 0) ⟨#[], wargs, []⟩).memory Tryz.f6.params.toList (Rows.OpenSpec.upto Rows.diffTextsSpec).vars false wargs.toList 8 = some ([.nil], [], places) := by
  have hw : (DataW.whole enc Tryz.prog ((laidWorld os).forCall (fun _ _ => 0) ⟨#[], wargs, []⟩).memory Tryz.f6.params.toList (Rows.OpenSpec.upto Rows.diffTextsSpec).vars false wargs.toList 8).map (fun x => (x.1, x.2.1)) = some ([.nil], []) := by kernel_rfl
  obtain ⟨⟨x1, x2, x3⟩, hx, hx1⟩ := Option.map_eq_some_iff.1 hw
  simp only [Prod.mk.injEq] at hx1
  obtain ⟨rfl, rfl⟩ := hx1
  exact ⟨x3, hx⟩
set_option maxRecDepth 100000 in
theorem liftedUpto (os : Os) (started : os.Started) (H : Type) (enc : TypeId × Value → H) (F : Stop.Interp) :
    ReturnsInHanded {} Tryz.checked os 6 .any ((Rows.OpenSpec.upto Rows.diffTextsSpec).preRow enc Tryz.prog Tryz.f6 Rows.diffTextsUptoRow.domain false Rows.diffTextsUptoRow.laid) (((Rows.OpenSpec.upto Rows.diffTextsSpec).at F).post enc Tryz.prog Tryz.f6 false true false false) := by
  obtain ⟨places, hx⟩ := wreads os enc
  refine returnsInHanded_of_row (C := Tryz.checked) (s := Rows.OpenSpec.upto Rows.diffTextsSpec) own started (by kernel_rfl) Tryz.func6
    (witness_row_at (enc := enc) (C := Tryz.checked) false (laidWorld os) wargs rfl (by kernel_rfl) (by kernel_rfl) (by kernel_rfl)
      (OpenSpec.preRow_of_cond 8 hx (by kernel_rfl) (fun k hk => by cases hk; kernel_rfl) (by kernel_rfl) (laid_met os _))) ?_
  intro W base args ds gs before hval hW _ hcond _ hL hS _
  exact contract H enc F W base args ds gs before hval hW (hcond _ rfl) (env_of hL hS)
theorem inPlace_eq : Rows.diffTextsUptoRow.inPlace = Tryz.prog.inPlace 6 := by kernel_rfl
theorem unfollowed_eq : Tryz.prog.unfollowed 6 = true := by kernel_rfl
theorem recurses_eq : Tryz.prog.recurses 6 = true := by
  unfold Program.recurses
  rw [unfollowed_eq]
  rfl
theorem varsNamed_eq : Rows.diffTextsUptoRow.named = Tryz.prog.varsNamed 6 := by kernel_rfl
theorem mapsRowed_eq : mapsRowed Tryz.prog = true := by kernel_rfl
theorem plainKeys_eq : Rows.diffTextsUptoRow.plainKeys = Tryz.prog.plainKeys := by kernel_rfl
theorem joined : joinedFacts Tryz.prog 6 Tryz.f6 (Rows.OpenSpec.upto Rows.diffTextsSpec).bare Rows.diffTextsUptoRow = true := by
  unfold joinedFacts
  rw [← inPlace_eq, unfollowed_eq, recurses_eq, ← varsNamed_eq, laidOut, mapsRowed_eq, ← plainKeys_eq]
  refine Eq.trans ?_ (Eq.refl _)
  kernel_rfl
theorem named : Tryz.pinned.checked.prog.funcNamed Rows.diffTextsUptoRow.func = some 6 := by kernel_rfl
theorem isInst : Tryz.f6.isInstance Tryz.pinned.checked.prog Rows.diffTextsUptoRow.origin Rows.diffTextsUptoRow.targs := of_decide_eq_true (by kernel_rfl)
theorem isWrap : Tryz.f6.isWrapper Tryz.pinned.checked.prog Rows.diffTextsUptoRow.wrapper Rows.diffTextsUptoRow.mainSum := by
  unfold Func.isWrapper
  first | (rw [if_pos (by decide +kernel)]; kernel_rfl) | (rw [if_neg (by decide +kernel)]; exact ⟨rfl, rfl⟩)
theorem saidUpto : Rows.DiffTextsUptoSaid :=
  OpenClaim.holds_of_cond 6 Tryz.f6 rfl rfl rfl rfl rfl rfl rfl ⟨rfl, rfl, rfl, rfl, rfl⟩ rfl rfl rfl rfl rfl named Tryz.func6 joined isInst isWrap
    (fun os started H enc _ F => by rw [OpenClaim.pre_eq_preRow]; exact liftedUpto os started H enc F)
theorem plain (f : FuncId) (fn : Func) (hf : Tryz.pinned.checked.prog.funcNamed "captioner/captionerlaw17.DiffTexts" = some f) (hfn : Tryz.pinned.checked.prog.funcs[f]? = some fn) :
    false = Tryz.pinned.checked.prog.looks [] ∧ ∀ (j : Nat) t, fn.params[j]? = some t → Tryz.pinned.checked.prog.wantsStandIn t = false := by
  obtain rfl : f = 6 := Option.some.inj ((show Tryz.prog.funcNamed "captioner/captionerlaw17.DiffTexts" = some 6 by kernel_rfl).symm.trans hf) |>.symm
  obtain rfl : fn = Tryz.f6 := (Option.some.inj (Tryz.func6.symm.trans hfn)).symm
  refine ⟨by kernel_rfl, fun j t ht => ?_⟩
  rw [Tryz.params6] at ht
  have hm := Array.mem_of_getElem? ht
  simp at hm
  obtain rfl := hm
  · exact (show Tryz.prog.wantsStandIn 29 = false by kernel_rfl)
/-- DiffTexts returns true for all arguments of bulk at most 1048576. -/
theorem cardUpto : Rows.DiffTextsUptoCardSaid :=
  Claim7.holds_tied_plain_at .later [] _ _ _ _ saidUpto (fun _ h => by cases h) (by kernel_rfl) (fun _ h => by cases h) diffTextsUpto_row_tie rfl ⟨rfl, rfl⟩ (by kernel_rfl) rfl plain (by kernel_rfl)
#print axioms cardUpto
end Go.Proofs.YtnlnmbcaongehaaGreatDoor.diffTexts
