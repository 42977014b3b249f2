/- The contract of the reference's Fields at any change. The contract of the reference's Text: a line for each change. What one change does to the contents of a document, in plain words; diff.apply does just that to a document in order. The contract of diff.apply at any change of a document in order, and of diff.Patch at any changes. The changes between two documents in order lead from the one to the other, and their inverses back: the plain law. Memory of Invert's own: changes in a row of its own; what lies there is fixed by the cells. -/
import Derived.Great.BuildSlice
import Derived.Test.YtnlnmbcaongehaaGreatDoorT03
import Derived.Test.YtnlnmbcaongehaaGreatDoorT00
import Derived.Test.YtnlnmbcaongehaaGreatDoorT02
import Derived.Test.YtnlnmbcaongehaaGreatDoorBase17
import Derived.Test.YtnlnmbcaongehaaGreatDoorBase16
import Derived.Test.YtnlnmbcaongehaaGreatDoorBase12
import Derived.Test.YtnlnmbcaongehaaGreatDoorBase10
import Derived.Test.YtnlnmbcaongehaaGreatDoorBase06
import Derived.Test.YtnlnmbcaongehaaGreatDoorBase04
import Derived.Test.YtnlnmbcaongehaaGreatDoorBase02
import Derived.Test.YtnlnmbcaongehaaGreatDoorBase01
import Derived.Test.YtnlnmbcaongehaaGreatDoorBase00
import Derived.Test.YtnlnmbcaongehaaGreatDoorBase03
import Derived.Test.YtnlnmbcaongehaaGreatDoorBase11
import Derived.Test.YtnlnmbcaongehaaGreatDoorBase15
import Derived.Test.YtnlnmbcaongehaaGreatDoorBase14
import Derived.Test.YtnlnmbcaongehaaGreatDoorBase13
import Derived.Test.YtnlnmbcaongehaaGreatDoorBase05
import Derived.Test.YtnlnmbcaongehaaGreatDoorBase08
import Derived.Test.YtnlnmbcaongehaaGreatDoorBase07
import Derived.Test.YtnlnmbcaongehaaGreatDoorBase09
import Derived.Test.YtnlnmbcaongehaaGreatDoorBase18
import Derived.Test.YtnlnmbcaongehaaGreatDoorT01
set_option linter.unusedVariables false
set_option linter.unusedSimpArgs false
namespace Go.Proofs.YtnlnmbcaongehaaGreatDoor
open Go.RowKit
set_option maxRecDepth 100000 in
set_option maxHeartbeats 6400000 in
theorem refFldsNo_calls (c : Chg) (w : World) (hno : fieldNames c = []) (h : (c.added || c.gone) = true ∨ (c.sec ≠ 1 ∧ c.sec ≠ 2 ∧ c.sec ≠ 3 ∧ c.sec ≠ 4)) : Calls Tryz.prog 20 #[.agg c.enc.toArray] w (StrsPost (fieldNames c) w) := by
  have HQ := Lib.hid (fun (w' : World) (h2 : Below w.heap.size w w') => (show StrsPost (fieldNames c) w (.returned (.slice none 0 0)) w' from ⟨_, rfl, by rw [hno]; exact World.ownsRow_nil _ _ _ _, h2⟩))
  generalize StrsPost (fieldNames c) w = Q at *
  clear hno
  obtain ⟨sec, id, name, ad, gn, oh, nh, rg, nr, oe, ne, oc, nc⟩ := c
  simp only at h
  generalize hcl : Chg.enc _ = cl
  have hc0 : cl.toArray[0]? = some (.int .u8 sec) := by rw [← hcl]; rfl
  have hc3 : cl.toArray[3]? = some (.bool ad) := by rw [← hcl]; rfl
  have hc4 : cl.toArray[4]? = some (.bool gn) := by rw [← hcl]; rfl
  have f0 := box_cell w cl.toArray 54 0 _ hc0
  have f3 := box_cell w cl.toArray 54 3 _ hc3
  have f4 := box_cell w cl.toArray 54 4 _ hc4
  clear hcl hc0 hc3 hc4
  have hb0 : Below (w.heap.size + 1) (w.alloc (.cells cl.toArray 54)) (w.alloc (.cells cl.toArray 54)) := Below.refl _ _
  have HE := Lib.hid (HQ.out _ (box_below hb0))
  generalize hW0 : w.alloc (.cells cl.toArray 54) = W0 at *
  have HW0 := Lib.hid hW0
  clear hW0 HQ
  cases ad
  case' false => cases gn
  case' false.false => obtain ⟨h1, h2, h3, h4⟩ : sec ≠ 1 ∧ sec ≠ 2 ∧ sec ≠ 3 ∧ sec ≠ 4 := by simpa using h
  all_goals
    clear h
    go_enter Tryz.func20, Tryz.ntmps20
    go_upto_region 1 with fail
    rw [HW0.out]
    go_wp2_with fail
    all_goals first
      | exact HE.out
      | contradiction
/-- The reference's fields of any change. -/
theorem refFields_calls (c : Chg) (w : World) (hl : c.lies w) (hfo : ∀ r ∈ c.oe.rows, r.runs.length ≤ 4000000) (hfn : ∀ r ∈ c.ne.rows, r.runs.length ≤ 4000000) (hle : c.oe.rows.length ≤ 4000000) :
    Calls Tryz.prog 20 #[.agg c.enc.toArray] w (StrsPost (fieldNames c) w) := by
  by_cases hag : (c.added || c.gone) = true
  · exact refFldsNo_calls c w (by unfold fieldNames; rw [if_pos hag]) (.inl hag)
  have had : c.added = false := by cases h : c.added <;> simp_all
  have hgn : c.gone = false := by cases h : c.gone <;> simp_all
  by_cases h1 : c.sec = 1
  · exact refFldsHd_calls c w h1 had hgn
  by_cases h2 : c.sec = 2
  · exact refFldsReg_calls c w h2 had hgn
  by_cases h3 : c.sec = 3
  · exact refFldsEv_calls c w h3 had hgn hl hfo hfn hle
  by_cases h4 : c.sec = 4
  · exact refFldsCm_calls c w h4 had hgn
  exact refFldsNo_calls c w (by unfold fieldNames; rw [if_neg hag]; simp [fieldsOf, h1, h2, h3, h4, namesOf_nil]) (.inr ⟨h1, h2, h3, h4⟩)
end Go.Proofs.YtnlnmbcaongehaaGreatDoor
namespace Go.Proofs.YtnlnmbcaongehaaGreatDoor
open Go.RowKit
def tailWords (x : Chg) : List ByteArray := if x.added = true then [wADDED] else if x.gone = true then [wGONE] else fieldNames x
def tailB (ws : List ByteArray) : List UInt8 := Lib.joinTail [32] (ws.map (·.data.toList))
theorem tailB_snoc (ws : List ByteArray) (j : Nat) (x : ByteArray) (h : ws[j]? = some x) : tailB (ws.take (j + 1)) = tailB (ws.take j) ++ ([32] ++ x.data.toList) := by
  unfold tailB Lib.joinTail
  rw [List.take_add_one, h]
  simp
theorem joinTail_app (r s : List (List UInt8)) : Lib.joinTail [32] (r ++ s) = Lib.joinTail [32] r ++ Lib.joinTail [32] s := by
  unfold Lib.joinTail
  rw [List.map_append, List.flatten_append]
theorem line_parts (x : Chg) : lineB x = (placeOf x.sec x.id x.name).data.toList ++ tailB (tailWords x) ++ [10] := by
  rw [placeOf_join]
  unfold lineB lineWords
  have hp := (placeWords_len x).1
  show Lib.join ((placeWords x ++ tailWords x).map (·.data.toList)) [32] ++ [10] = _
  cases hw : placeWords x with
  | nil => rw [hw] at hp; simp at hp
  | cons p ps =>
    rw [List.cons_append, List.map_cons, List.map_cons, Lib.join_cons, Lib.join_cons, List.map_append, joinTail_app, ← List.append_assoc]
    rfl
theorem app_data (a b : ByteArray) : (a ++ b).data.toList = a.data.toList ++ b.data.toList := by rw [ByteArray.data_append, Array.toList_append]
theorem size_list (a : ByteArray) : a.size = a.data.toList.length := by
  show a.data.size = _
  rw [Array.length_toList]
theorem tailB_le (ws : List ByteArray) (j : Nat) : (tailB (ws.take j)).length ≤ (tailB ws).length := by
  have : tailB ws = tailB (ws.take j) ++ Lib.joinTail [32] ((ws.drop j).map (·.data.toList)) := by
    unfold tailB
    rw [← joinTail_app, ← List.map_append, List.take_append_drop]
  rw [this, List.length_append]
  omega
/-- What stands between the place and the fields. -/
def markB (ad gn : Bool) : ByteArray := if ad = true then ⟨#[32, 65, 68, 68, 69, 68]⟩ else if gn = true then ⟨#[32, 71, 79, 78, 69]⟩ else ⟨#[]⟩
theorem line_mark (x : Chg) : lineB x = ((placeOf x.sec x.id x.name).data.toList ++ (markB x.added x.gone).data.toList) ++ tailB (fieldNames x) ++ [10] := by
  rw [line_parts]
  unfold tailWords markB fieldNames
  cases x.added with
  | true => simp [tailB, Lib.joinTail, wADDED]
  | false =>
    cases x.gone with
    | true => simp [tailB, Lib.joinTail, wGONE]
    | false => simp
theorem word_data {s s' x : ByteArray} {Z : List UInt8} {FN : List ByteArray} {j : Nat} (h : s'.data.toList = s.data.toList ++ (Z ++ tailB (FN.take j))) (hx : FN[j]? = some x) : (s' ++ ((⟨#[32]⟩ : ByteArray) ++ x)).data.toList = s.data.toList ++ (Z ++ tailB (FN.take (j + 1))) := by
  rw [app_data, app_data, h, tailB_snoc FN j x hx]
  simp
theorem word_size {s s' x : ByteArray} {Z : List UInt8} {FN : List ByteArray} {LB : List UInt8} {j : Nat} (h : s'.data.toList = s.data.toList ++ (Z ++ tailB (FN.take j))) (hx : FN[j]? = some x) (hl : LB = Z ++ tailB FN ++ [10]) (hs : s.size + LB.length ≤ 140737488355328) : s'.size + (1 + x.size) ≤ 140737488355328 := by
  have h1 := word_data h hx
  have h2 := congrArg List.length h1
  rw [app_data, app_data] at h2
  have h3 := tailB_le FN (j + 1)
  rw [hl] at hs
  simp only [List.length_append, ← size_list, List.length_cons, List.length_nil] at h2 hs
  have : (⟨#[32]⟩ : ByteArray).size = 1 := rfl
  omega
theorem text_size {s s' : ByteArray} {Z : List UInt8} {FN : List ByteArray} {LB : List UInt8} (h : s'.data.toList = s.data.toList ++ (Z ++ tailB FN)) (hl : LB = Z ++ tailB FN ++ [10]) (hs : s.size + LB.length ≤ 140737488355328) : s'.size ≤ 140737488355328 ∧ (s' ++ (⟨#[10]⟩ : ByteArray)).data.toList = s.data.toList ++ LB := by
  refine ⟨?_, by rw [app_data, h, hl]; simp⟩
  have h2 := congrArg List.length h
  rw [hl] at hs
  simp only [List.length_append, ← size_list] at h2 hs
  omega
theorem fieldNames_le (x : Chg) : (fieldNames x).length ≤ 5 := by
  unfold fieldNames
  split
  · simp
  · exact Nat.le_trans (namesOf_le _) (fieldsOf_le x)
/-- The text behind k lines. -/
def TxtRel (xs : List Chg) (w : World) (k : Nat) (s : ByteArray) (wr : World) : Prop := s.data.toList = textB (xs.take k) ∧ Below w.heap.size w wr
theorem TxtRel.small {xs : List Chg} {w wr : World} {k : Nat} {s : ByteArray} {x : Chg} (h : TxtRel xs w k s wr) (hx : xs[k]? = some x) (htx : (textB xs).length ≤ 140737488355328) : s.size + (lineB x).length ≤ 140737488355328 := by
  have := textB_le xs k x hx
  rw [size_list, h.1]
  omega
theorem TxtRel.step {xs : List Chg} {w wr w1 : World} {k : Nat} {s s' : ByteArray} {x : Chg} (h : TxtRel xs w k s wr) (hx : xs[k]? = some x) (hb : Below wr.heap.size wr w1) (hs : s'.data.toList = s.data.toList ++ lineB x) : TxtRel xs w (k + 1) s' w1 :=
  ⟨by rw [hs, h.1, textB_snoc xs k x hx], h.2.trans (hb.mono h.2.size)⟩
set_option maxRecDepth 100000 in
set_option maxHeartbeats 6400000 in
theorem refText_calls (a : Option Addr) (cap : Nat) (xs : List Chg) (w : World) (hx : ChgAt w a xs) (hl : xs.length ≤ 40000000) (hid : ∀ x ∈ xs, i64 x.id ∧ x.name.size ≤ 4000000) (htx : (textB xs).length ≤ 140737488355328)
    (HF : ∀ (x : Chg) (w1 : World), x ∈ xs → x.lies w1 → Calls Tryz.prog 20 #[.agg x.enc.toArray] w1 (StrsPost (fieldNames x) w1)) :
    Calls Tryz.prog 23 #[.slice a xs.length cap] w fun e w' => e = .returned (.string ⟨(textB xs).toArray⟩) ∧ Below w.heap.size w w' := by
  have HX := Lib.hid (fun (w1 : World) (h : Below w.heap.size w w1) => SliceOf.keeps Chg.keeps _ _ _ _ h hx)
  have HI := Lib.hid hid
  have HTX := Lib.hid htx
  have HFF := Lib.hid HF
  generalize hQ : (fun (e : Ending) (w' : World) => e = .returned (.string ⟨(textB xs).toArray⟩) ∧ Below w.heap.size w w') = Q
  have HQ := Lib.hid (fun (s : ByteArray) (w' : World) (h : TxtRel xs w xs.length s w') => show Q (.returned (.string s)) w' from by
    have h1 := h.1
    rw [List.take_length] at h1
    exact hQ ▸ ⟨by rw [ba_of h1], h.2⟩)
  clear hQ hx hid htx HF
  go_enter Tryz.func23, Tryz.ntmps23
  go_wp2_with fail
  go_loopw [3, 10] (fun v i wr => ∃ (k : Nat) (s : ByteArray), k ≤ xs.length ∧ i = .int .i64 k ∧ v = .string s ∧ TxtRel xs w k s wr) (fun _ i _ => xs.length - (intOf i).toNat)
  case atStart => exact ⟨0, ⟨#[]⟩, by omega, rfl, rfl, rfl, Below.refl _ _⟩
  case round =>
    obtain ⟨k, s, hk, rfl, rfl, hR⟩ := hrel
    by_cases hlt : k < xs.length
    · obtain ⟨b, off, x, rfl, hbl, hxk, hcx, hxl⟩ := (HX.out wr hR.2).at_ hlt
      have hi := HI.out x (List.mem_of_getElem? hxk)
      have HP := Lib.hid (fun w1 => place17_calls x.sec x.id x.name w1 hi.1.1 hi.1.2 hi.2)
      have HFX := Lib.hid (fun (w1 : World) (h : Below wr.heap.size wr w1) => HFF.out x w1 (List.mem_of_getElem? hxk) (Chg.keeps _ _ _ h hxl))
      have hps := placeOf_size x.sec x.id x.name hi.1.1 hi.1.2 hi.2
      have hsm := hR.small hxk HTX.out
      have hlp := line_mark x
      have R1 := Lib.hid (show wr.rangeAt b (off + k * 59) x.enc from fun q v e => hcx q v e)
      have HSX := Lib.hid (show (Tryz.prog.info? 54).map (·.size) = some x.enc.length by rw [chgSize, Chg.len])
      have HIX := Lib.hid (show (Tryz.prog.info? 54).map (·.size) = some x.enc.toArray.size by rw [chgSize, List.size_toArray, Chg.len])
      have HLX := Lib.hid (show x.enc.toArray.size = 59 by rw [List.size_toArray, Chg.len])
      have HOX := Lib.hid (one_all (Chg.one x))
      have HST := Lib.hid (fun (s' : ByteArray) (w1 : World) (hb : Below wr.heap.size wr w1) (hs : s'.data.toList = s.data.toList ++ lineB x) => hR.step hxk hb hs)
      have hbA : Below wr.heap.size wr (wr.alloc (.cells x.enc.toArray 54)) := (Below.refl _ _).alloc (Nat.le_refl _) _
      have hkA := heap_alloc_last wr (.cells x.enc.toArray 54)
      have hsA : (wr.alloc (.cells x.enc.toArray 54)).heap.size = wr.heap.size + 1 := World.size_alloc _ _
      have hrow := fun (w1 : World) (h : Below (wr.heap.size + 1) (wr.alloc (.cells x.enc.toArray 54)) w1) => chg_row (x := x) ((h.block _ (by omega)).trans hkA)
      have f0 := fun (w1 : World) (h : Below (wr.heap.size + 1) (wr.alloc (.cells x.enc.toArray 54)) w1) => (hrow w1 h).1
      have f1 := fun (w1 : World) (h : Below (wr.heap.size + 1) (wr.alloc (.cells x.enc.toArray 54)) w1) => (hrow w1 h).2.1
      have f2 := fun (w1 : World) (h : Below (wr.heap.size + 1) (wr.alloc (.cells x.enc.toArray 54)) w1) => (hrow w1 h).2.2.1
      have f3 := fun (w1 : World) (h : Below (wr.heap.size + 1) (wr.alloc (.cells x.enc.toArray 54)) w1) => (hrow w1 h).2.2.2.1
      have f4 := fun (w1 : World) (h : Below (wr.heap.size + 1) (wr.alloc (.cells x.enc.toArray 54)) w1) => (hrow w1 h).2.2.2.2.1
      have HRX := Lib.hid (fun (w1 : World) (h : Below (wr.heap.size + 1) (wr.alloc (.cells x.enc.toArray 54)) w1) => range_row ((h.block wr.heap.size (by omega)).trans hkA))
      have HFL := Lib.hid (fieldNames_le x)
      generalize x.enc = xe at *
      generalize placeOf x.sec x.id x.name = PL at *
      generalize fieldNames x = FN at *
      generalize lineB x = LB at *
      obtain ⟨sec, id, name, ad, gn, oh, nh, rg, nr, oe, ne, oc, nc⟩ := x
      simp only at f0 f1 f2 f3 f4 HP hlp
      clear hR hcx hxl hxk hi hrow hkA
      go_upto_region 5 with (first
        | (refine wpList_load_mid rfl 54 (.tmp 12) rfl b (off + k * 59) rfl xe _ R1.out Tryz.underlying54 rfl HSX.out ?_)
        | (refine wpList_store_row rfl 54 (.tmp 5) (.tmp 13) rfl wr.heap.size xe.toArray rfl rfl 54 _ (heap_alloc_last wr _) HIX.out HLX.out.symm HOX.out ?_; rw [World.setRow_alloc_new]))
      have hb0 : Below (wr.heap.size + 1) (wr.alloc (.cells xe.toArray 54)) (wr.alloc (.cells xe.toArray 54)) := Below.refl _ _
      generalize wr.alloc (.cells xe.toArray 54) = WA at *
      have HBA := Lib.hid (fun (w1 : World) (h : Below (wr.heap.size + 1) WA w1) => (show Below wr.heap.size wr w1 from hbA.trans (h.mono (by omega))))
      have HT0 := Lib.hid (fun (w2 w3 : World) (h : Below (wr.heap.size + 1) WA w2) (h3 : Below w2.heap.size w2 w3) => (h.trans (h3.mono (by have := h.size; omega)) : Below (wr.heap.size + 1) WA w3))
      clear hbA hsA R1 HIX HLX HOX
      go_wp2_with fail
      refine (HP.out _).mono ?_
      rintro e w1 ⟨rfl, hb1⟩
      have hc1 := HT0.out _ _ hb0 hb1
      clear hb1 hb0 HP
      have hs : s.size ≤ 140737488355328 := by omega
      have HSM := Lib.hid hsm
      clear hsm
      cases ad with
      | true =>
        obtain ⟨Z, hZ⟩ : ∃ Z : List UInt8, Z = PL.data.toList ++ (markB true gn).data.toList := ⟨_, rfl⟩
        rw [← hZ] at hlp
        have HLP := Lib.hid hlp
        have HZ := Lib.hid hZ
        clear hlp hZ
        go_upto_region 10 with fail
        have H0 := Lib.hid (show (s ++ PL ++ (⟨#[32, 65, 68, 68, 69, 68]⟩ : ByteArray)).data.toList = s.data.toList ++ (Z ++ tailB (FN.take 0)) from by rw [HZ.out]; simp [app_data, markB, tailB, Lib.joinTail])
        generalize s ++ PL ++ (⟨#[32, 65, 68, 68, 69, 68]⟩ : ByteArray) = S2 at *
        have R5 := Lib.hid (HRX.out w1 hc1)
        clear f0 f1 f2 f3 f4 HRX hs hps
        go_wp2_with (refine wpList_load_mid rfl 54 (.tmp 5) rfl wr.heap.size 0 rfl xe _ R5.out Tryz.underlying54 rfl HSX.out ?_)
        refine (HFX.out w1 (HBA.out _ hc1)).mono ?_
        rintro e w2 ⟨v, rfl, hv, hb2⟩
        obtain ⟨av, cv, rfl, hS⟩ := strs_slice hv
        have hc2 := HT0.out _ _ hc1 hb2
        have HB2 := Lib.hid (HBA.out _ hc2)
        have HSS := Lib.hid hS
        have hfl : FN.length ≤ 5 := HFL.out
        clear hb2 hv hS hc1 hc2 R5 HFX HSX HBA HT0
        go_wp2_with fail
        go_loopw [3, 34] (fun u i wq => ∃ (j : Nat) (s' : ByteArray), j ≤ FN.length ∧ i = .int .i64 j ∧ u = .string s' ∧ s'.data.toList = s.data.toList ++ (Z ++ tailB (FN.take j)) ∧ wq = w2) (fun _ i _ => FN.length - (intOf i).toNat)
        case atStart => exact ⟨0, S2, by omega, rfl, rfl, H0.out, rfl⟩
        case round =>
          obtain ⟨j, s', hj, rfl, rfl, hs', rfl⟩ := hrel
          by_cases hjl : j < FN.length
          · obtain ⟨b2, off2, y, rfl, hbl2, hyk, hcy, _⟩ := HSS.out.at_ hjl
            have cy := hcy 0 (.string y) rfl
            have hz := word_size hs' hyk HLP.out HSM.out
            have HW := Lib.hid (word_data hs' hyk)
            simp only [Nat.mul_one, Nat.add_zero] at cy
            clear hcy hs'
            go_wp2_with fail
            go_roundw
            case rel => exact ⟨j + 1, _, by omega, by go_num, rfl, HW.out, trivial⟩
            case measure => first | (simp [intOf]; done) | (simp [intOf]; omega)
          · obtain rfl : j = FN.length := by omega
            rw [List.take_length] at hs'
            have hz := (text_size hs' HLP.out HSM.out).1
            have HE := Lib.hid (HST.out _ _ HB2.out (text_size hs' HLP.out HSM.out).2)
            clear hs'
            go_wp2_with fail
            go_roundw
            case rel => exact ⟨k + 1, _, by omega, by go_num, rfl, HE.out⟩
            case measure => first | (simp [intOf]; done) | (simp [intOf]; omega)
      | false =>
        obtain ⟨Z, hZ⟩ : ∃ Z : List UInt8, Z = PL.data.toList ++ (markB false gn).data.toList := ⟨_, rfl⟩
        rw [← hZ] at hlp
        have HLP := Lib.hid hlp
        have HZ := Lib.hid hZ
        clear hlp hZ
        cases gn with
        | true =>
          go_upto_region 10 with fail
          have H0 := Lib.hid (show (s ++ PL ++ (⟨#[32, 71, 79, 78, 69]⟩ : ByteArray)).data.toList = s.data.toList ++ (Z ++ tailB (FN.take 0)) from by rw [HZ.out]; simp [app_data, markB, tailB, Lib.joinTail])
          generalize s ++ PL ++ (⟨#[32, 71, 79, 78, 69]⟩ : ByteArray) = S2 at *
          have R5 := Lib.hid (HRX.out w1 hc1)
          clear f0 f1 f2 f3 f4 HRX hs hps
          go_wp2_with (refine wpList_load_mid rfl 54 (.tmp 5) rfl wr.heap.size 0 rfl xe _ R5.out Tryz.underlying54 rfl HSX.out ?_)
          refine (HFX.out w1 (HBA.out _ hc1)).mono ?_
          rintro e w2 ⟨v, rfl, hv, hb2⟩
          obtain ⟨av, cv, rfl, hS⟩ := strs_slice hv
          have hc2 := HT0.out _ _ hc1 hb2
          have HB2 := Lib.hid (HBA.out _ hc2)
          have HSS := Lib.hid hS
          have hfl : FN.length ≤ 5 := HFL.out
          clear hb2 hv hS hc1 hc2 R5 HFX HSX HBA HT0
          go_wp2_with fail
          go_loopw [3, 34] (fun u i wq => ∃ (j : Nat) (s' : ByteArray), j ≤ FN.length ∧ i = .int .i64 j ∧ u = .string s' ∧ s'.data.toList = s.data.toList ++ (Z ++ tailB (FN.take j)) ∧ wq = w2) (fun _ i _ => FN.length - (intOf i).toNat)
          case atStart => exact ⟨0, S2, by omega, rfl, rfl, H0.out, rfl⟩
          case round =>
            obtain ⟨j, s', hj, rfl, rfl, hs', rfl⟩ := hrel
            by_cases hjl : j < FN.length
            · obtain ⟨b2, off2, y, rfl, hbl2, hyk, hcy, _⟩ := HSS.out.at_ hjl
              have cy := hcy 0 (.string y) rfl
              have hz := word_size hs' hyk HLP.out HSM.out
              have HW := Lib.hid (word_data hs' hyk)
              simp only [Nat.mul_one, Nat.add_zero] at cy
              clear hcy hs'
              go_wp2_with fail
              go_roundw
              case rel => exact ⟨j + 1, _, by omega, by go_num, rfl, HW.out, trivial⟩
              case measure => first | (simp [intOf]; done) | (simp [intOf]; omega)
            · obtain rfl : j = FN.length := by omega
              rw [List.take_length] at hs'
              have hz := (text_size hs' HLP.out HSM.out).1
              have HE := Lib.hid (HST.out _ _ HB2.out (text_size hs' HLP.out HSM.out).2)
              clear hs'
              go_wp2_with fail
              go_roundw
              case rel => exact ⟨k + 1, _, by omega, by go_num, rfl, HE.out⟩
              case measure => first | (simp [intOf]; done) | (simp [intOf]; omega)
        | false =>
          go_upto_region 10 with fail
          have H0 := Lib.hid (show (s ++ PL).data.toList = s.data.toList ++ (Z ++ tailB (FN.take 0)) from by rw [HZ.out]; simp [app_data, markB, tailB, Lib.joinTail])
          generalize s ++ PL = S2 at *
          have R5 := Lib.hid (HRX.out w1 hc1)
          clear f0 f1 f2 f3 f4 HRX hs hps
          go_wp2_with (refine wpList_load_mid rfl 54 (.tmp 5) rfl wr.heap.size 0 rfl xe _ R5.out Tryz.underlying54 rfl HSX.out ?_)
          refine (HFX.out w1 (HBA.out _ hc1)).mono ?_
          rintro e w2 ⟨v, rfl, hv, hb2⟩
          obtain ⟨av, cv, rfl, hS⟩ := strs_slice hv
          have hc2 := HT0.out _ _ hc1 hb2
          have HB2 := Lib.hid (HBA.out _ hc2)
          have HSS := Lib.hid hS
          have hfl : FN.length ≤ 5 := HFL.out
          clear hb2 hv hS hc1 hc2 R5 HFX HSX HBA HT0
          go_wp2_with fail
          go_loopw [3, 34] (fun u i wq => ∃ (j : Nat) (s' : ByteArray), j ≤ FN.length ∧ i = .int .i64 j ∧ u = .string s' ∧ s'.data.toList = s.data.toList ++ (Z ++ tailB (FN.take j)) ∧ wq = w2) (fun _ i _ => FN.length - (intOf i).toNat)
          case atStart => exact ⟨0, S2, by omega, rfl, rfl, H0.out, rfl⟩
          case round =>
            obtain ⟨j, s', hj, rfl, rfl, hs', rfl⟩ := hrel
            by_cases hjl : j < FN.length
            · obtain ⟨b2, off2, y, rfl, hbl2, hyk, hcy, _⟩ := HSS.out.at_ hjl
              have cy := hcy 0 (.string y) rfl
              have hz := word_size hs' hyk HLP.out HSM.out
              have HW := Lib.hid (word_data hs' hyk)
              simp only [Nat.mul_one, Nat.add_zero] at cy
              clear hcy hs'
              go_wp2_with fail
              go_roundw
              case rel => exact ⟨j + 1, _, by omega, by go_num, rfl, HW.out, trivial⟩
              case measure => first | (simp [intOf]; done) | (simp [intOf]; omega)
            · obtain rfl : j = FN.length := by omega
              rw [List.take_length] at hs'
              have hz := (text_size hs' HLP.out HSM.out).1
              have HE := Lib.hid (HST.out _ _ HB2.out (text_size hs' HLP.out HSM.out).2)
              clear hs'
              go_wp2_with fail
              go_roundw
              case rel => exact ⟨k + 1, _, by omega, by go_num, rfl, HE.out⟩
              case measure => first | (simp [intOf]; done) | (simp [intOf]; omega)
    · obtain rfl : k = xs.length := by omega
      have HE := Lib.hid (HQ.out s wr hR)
      clear hR
      go_wp2_with fail
      exact HE.out
end Go.Proofs.YtnlnmbcaongehaaGreatDoor
namespace Go.Proofs.YtnlnmbcaongehaaGreatDoor
open Go.RowKit
def ChgC.newReg (c : ChgC) : Reg := ⟨c.name, c.nr.top, c.nr.height, c.nr.left, c.nr.width, c.nr.align, c.nr.bottom⟩
def regAt (k : ByteArray) (x : Reg) : Bool := x.name.toList == k.toList
def cmAt (k : Int) (x : Cm) : Bool := x.id == k
def evAt (k : Int) (x : EvC) : Bool := x.id == k
end Go.Proofs.YtnlnmbcaongehaaGreatDoor
namespace Go.Proofs.YtnlnmbcaongehaaGreatDoor
open Go.RowKit
def EvC.fits (x : EvC) : Prop := i64 x.id ∧ i64 x.inn ∧ i64 x.out ∧ x.region.size ≤ 4000000 ∧ 0 ≤ x.kind ∧ x.kind ≤ 255 ∧ x.speaker.size ≤ 4000000 ∧ (∀ r ∈ x.rows, (∀ y ∈ r, y.fits) ∧ r.length ≤ 4000000 ∧ sumText r ≤ 4000000) ∧ x.rows.length ≤ 4000000
theorem Ev.fits_c (x : Ev) : x.c.fits ↔ x.fits := by
  unfold EvC.fits Ev.fits
  simp only [Ev.c, List.length_map, List.mem_map, forall_exists_index, and_imp, forall_apply_eq_imp_iff₂]
  rfl
def Hd.fits (h : Hd) : Prop := h.title.size ≤ 4000000 ∧ h.lang.size ≤ 4000000 ∧ 0 ≤ h.rate ∧ h.rate ≤ 255 ∧ i64 h.last
/-- A document whose lists are no longer than n. -/
def DocC.fits (n : Nat) (d : DocC) : Prop := d.hd.fits ∧ (∀ r ∈ d.regs, r.fits) ∧ d.regs.length ≤ n ∧ (∀ x ∈ d.evs, x.fits) ∧ d.evs.length ≤ n ∧ (∀ c ∈ d.cms, c.fits) ∧ d.cms.length ≤ n
theorem Doc.fits.c {d : Doc} {n : Nat} (h : d.fits) (h1 : d.regs.length ≤ n) (h2 : d.evs.length ≤ n) (h3 : d.cms.length ≤ n) : d.c.fits n := by
  obtain ⟨q1, q2, q3, q4, q5, q6, q7, q8, q9, q10, q11⟩ := h
  refine ⟨⟨q1, q2, q3, q4, q5⟩, q6, h1, fun x hx => ?_, by show (d.evs.map Ev.c).length ≤ n; rw [List.length_map]; exact h2, q10, h3⟩
  obtain ⟨y, hy, rfl⟩ := List.mem_map.1 hx
  exact (Ev.fits_c y).2 (q8 y hy)
theorem DocC.fits.mono {d : DocC} {n m : Nat} (h : d.fits n) (hn : n ≤ m) : d.fits m := by
  obtain ⟨h1, h2, h3, h4, h5, h6, h7⟩ := h
  exact ⟨h1, h2, by omega, h4, by omega, h6, by omega⟩
/-- The parts of a change that a document takes in. -/
def ChgC.full (c : ChgC) : Prop := 0 ≤ c.sec ∧ i64 c.id ∧ c.name.size ≤ 4000000 ∧ c.nh.fits ∧ c.nr.fits ∧ c.oe.fits ∧ c.ne.fits ∧ c.nc.fits
end Go.Proofs.YtnlnmbcaongehaaGreatDoor
namespace Go.Proofs.YtnlnmbcaongehaaGreatDoor
open Go.RowKit
def Side {α : Type} (x y : Option α) (z : α) (ad gn : Bool) (o n : α) : Prop := ad = (!x.isSome) ∧ gn = (!y.isSome) ∧ o = x.getD z ∧ n = y.getD z ∧ (x.isSome = true ∨ y.isSome = true)
/-- The inverse of a change. -/
def invC (c : ChgC) : ChgC := ⟨c.sec, c.id, c.name, c.gone, c.added, c.nh, c.oh, c.nr, c.rg, c.ne, c.oe, c.nc, c.oc⟩
def invL (l : List ChgC) : List ChgC := (l.map invC).reverse
theorem invL_invL (l : List ChgC) : invL (invL l) = l := by
  unfold invL
  rw [List.map_reverse, List.reverse_reverse, List.map_map]
  exact (List.map_congr_left fun c _ => rfl).trans (List.map_id _)
def Pick {α : Type} (P : Prop) (x a b : α) : Prop := (P → x = a) ∧ (¬ P → x = b)
theorem Pick.iff {α : Type} {P Q : Prop} {x a b : α} (h : Pick P x a b) (e : P ↔ Q) : Pick Q x a b := ⟨fun q => h.1 (e.2 q), fun q => h.2 fun p => q (e.1 p)⟩
/-- A document between two others: as the first one at the places of the changes given, as the second one elsewhere. -/
structure Mid (a b d : DocC) (L : List ChgC) : Prop where
  ok : DocOk d
  hd : Pick (∃ c ∈ L, c.sec = 1) d.hd a.hd b.hd
  regs : ∀ k, Pick (∃ c ∈ L, c.sec = 2 ∧ c.name = k) (d.regs.find? (regAt k)) (a.regs.find? (regAt k)) (b.regs.find? (regAt k))
  evs : ∀ k, Pick (∃ c ∈ L, c.sec = 3 ∧ c.id = k) (d.evs.find? (evAt k)) (a.evs.find? (evAt k)) (b.evs.find? (evAt k))
  cms : ∀ k, Pick (∃ c ∈ L, c.sec = 4 ∧ c.id = k) (d.cms.find? (cmAt k)) (a.cms.find? (cmAt k)) (b.cms.find? (cmAt k))
theorem ex_skip {P : ChgC → Prop} {c : ChgC} {L : List ChgC} (h : ¬ P c) : (∃ x ∈ c :: L, P x) ↔ ∃ x ∈ L, P x := by
  constructor
  · rintro ⟨x, hx, hp⟩
    rcases List.mem_cons.1 hx with rfl | hx
    · exact absurd hp h
    · exact ⟨x, hx, hp⟩
  · rintro ⟨x, hx, hp⟩
    exact ⟨x, List.mem_cons_of_mem _ hx, hp⟩
theorem Pick.skip {α : Type} {P : ChgC → Prop} {c : ChgC} {L : List ChgC} {x a b : α} (h : Pick (∃ z ∈ c :: L, P z) x a b) (hn : ¬ P c) : Pick (∃ z ∈ L, P z) x a b := h.iff (ex_skip hn)
theorem Pick.done {α : Type} {P : ChgC → Prop} {L : List ChgC} {x a b : α} (hn : ∀ z ∈ L, ¬ P z) (h : x = b) : Pick (∃ z ∈ L, P z) x a b := ⟨fun ⟨z, hz, hp⟩ => absurd hp (hn z hz), fun _ => h⟩
theorem Side.val {α : Type} {x y : Option α} {z : α} {ad gn : Bool} {o n : α} {f : α → α} (h : Side x y z ad gn o n) (hf : ∀ v, y = some v → f v = v) : (if gn = true then none else some (f n)) = y := by
  obtain ⟨_, rfl, _, rfl, _⟩ := h
  cases y with
  | none => rfl
  | some v => simp [hf v rfl]
end Go.Proofs.YtnlnmbcaongehaaGreatDoor
namespace Go.Proofs.YtnlnmbcaongehaaGreatDoor
open Go.RowKit
theorem SliceOf.unique {α : Type} {k : Nat} {enc : α → List Value} {Ok : World → α → Prop} {w : World} {a : Option Addr} {xs ys : List α} (hi : ∀ x y, Ok w x → Ok w y → enc x = enc y → x = y) (hk : ∀ x, (enc x).length = k) (h : SliceOf k enc Ok w a xs) (h' : SliceOf k enc Ok w a ys) (hl : xs.length = ys.length) : xs = ys := by
  refine List.ext_getElem hl fun i h1 h2 => ?_
  obtain ⟨b, off, x, hab, _, hx, hc, ho⟩ := h.at_ h1
  obtain ⟨b', off', y, hab', _, hy, hc', ho'⟩ := h'.at_ h2
  rw [hab] at hab'
  simp only [Option.some.injEq, Addr.mk.injEq, and_true] at hab'
  obtain ⟨rfl, rfl⟩ := hab'
  have ex : xs[i] = x := Option.some.inj ((List.getElem?_eq_getElem h1).symm.trans hx)
  have ey : ys[i] = y := Option.some.inj ((List.getElem?_eq_getElem h2).symm.trans hy)
  rw [ex, ey]
  refine hi x y ho ho' (List.ext_getElem? fun j => ?_)
  by_cases hj : j < k
  · have j1 : j < (enc x).length := by rw [hk]; exact hj
    have j2 : j < (enc y).length := by rw [hk]; exact hj
    have e1 := hc j _ (List.getElem?_eq_getElem j1)
    have e2 := hc' j _ (List.getElem?_eq_getElem j2)
    rw [List.getElem?_eq_getElem j1, List.getElem?_eq_getElem j2]
    exact e1.symm.trans e2
  · rw [List.getElem?_eq_none (by rw [hk]; omega), List.getElem?_eq_none (by rw [hk]; omega)]
theorem Run.inj {x y : Run} (h : x.enc = y.enc) : x = y := by
  obtain ⟨_, _, _, _, _⟩ := x
  obtain ⟨_, _, _, _, _⟩ := y
  simp only [Run.enc, List.cons.injEq, Value.string.injEq, Value.int.injEq, Value.bool.injEq, true_and, and_true] at h
  obtain ⟨rfl, rfl, rfl, rfl, rfl⟩ := h
  rfl
theorem Row.unique {w : World} {x y : Row} (h : x.lies w) (h' : y.lies w) (e : x.enc = y.enc) : x = y := by
  obtain ⟨a, c, rs⟩ := x
  obtain ⟨a', c', rs'⟩ := y
  simp only [Row.enc, List.cons.injEq, Value.slice.injEq, and_true] at e
  obtain ⟨rfl, hl, rfl⟩ := e
  have : rs = rs' := SliceOf.unique (fun x y _ _ e => Run.inj e) (fun _ => rfl) h h' hl
  rw [this]
theorem Ev.unique {w : World} {x y : Ev} (h : x.lies w) (h' : y.lies w) (e : x.enc = y.enc) : x = y := by
  obtain ⟨i, n, o, r, k, s, a, c, rs⟩ := x
  obtain ⟨i', n', o', r', k', s', a', c', rs'⟩ := y
  simp only [Ev.enc, List.cons.injEq, Value.slice.injEq, Value.string.injEq, Value.int.injEq, true_and, and_true] at e
  obtain ⟨rfl, rfl, rfl, rfl, rfl, rfl, rfl, hl, rfl⟩ := e
  have : rs = rs' := SliceOf.unique (fun x y h h' e => Row.unique h h' e) (fun _ => rfl) h h' hl
  rw [this]
theorem Hd.inj {x y : Hd} (h : x.enc = y.enc) : x = y := by
  obtain ⟨_, _, _, _, _⟩ := x
  obtain ⟨_, _, _, _, _⟩ := y
  simp only [Hd.enc, List.cons.injEq, Value.string.injEq, Value.int.injEq, Value.bool.injEq, true_and, and_true] at h
  obtain ⟨rfl, rfl, rfl, rfl, rfl⟩ := h
  rfl
theorem Reg.inj {x y : Reg} (h : x.enc = y.enc) : x = y := by
  obtain ⟨_, _, _, _, _, _, _⟩ := x
  obtain ⟨_, _, _, _, _, _, _⟩ := y
  simp only [Reg.enc, List.cons.injEq, Value.string.injEq, Value.int.injEq, Value.bool.injEq, true_and, and_true] at h
  obtain ⟨rfl, rfl, rfl, rfl, rfl, rfl, rfl⟩ := h
  rfl
theorem Cm.inj {x y : Cm} (h : x.enc = y.enc) : x = y := by
  obtain ⟨_, _, _, _, _, _, _, _⟩ := x
  obtain ⟨_, _, _, _, _, _, _, _⟩ := y
  simp only [Cm.enc, List.cons.injEq, Value.string.injEq, Value.int.injEq, Value.bool.injEq, true_and, and_true] at h
  obtain ⟨rfl, rfl, rfl, rfl, rfl, rfl, rfl, rfl⟩ := h
  rfl
theorem Chg.unique {w : World} {x y : Chg} (h : x.lies w) (h' : y.lies w) (e : x.enc = y.enc) : x = y := by
  obtain ⟨s, i, n, ad, gn, oh, nh, rg, nr, oe, ne, oc, nc⟩ := x
  obtain ⟨s', i', n', ad', gn', oh', nh', rg', nr', oe', ne', oc', nc'⟩ := y
  simp only [Chg.enc] at e
  obtain ⟨e0, e⟩ := List.append_inj e rfl
  obtain ⟨e1, e⟩ := List.append_inj e rfl
  obtain ⟨e2, e⟩ := List.append_inj e rfl
  obtain ⟨e3, e⟩ := List.append_inj e rfl
  obtain ⟨e4, e⟩ := List.append_inj e rfl
  obtain ⟨e5, e⟩ := List.append_inj e rfl
  obtain ⟨e6, e⟩ := List.append_inj e rfl
  obtain ⟨e7, e8⟩ := List.append_inj e rfl
  simp only [List.cons.injEq, Value.string.injEq, Value.int.injEq, Value.bool.injEq, true_and, and_true] at e0
  obtain ⟨rfl, rfl, rfl, rfl, rfl⟩ := e0
  obtain rfl := Hd.inj e1
  obtain rfl := Hd.inj e2
  obtain rfl := Reg.inj e3
  obtain rfl := Reg.inj e4
  have h5 : oe = oe' := Ev.unique h.1 h'.1 e5
  have h6 : ne = ne' := Ev.unique h.2 h'.2 e6
  obtain rfl := Cm.inj e7
  obtain rfl := Cm.inj e8
  rw [h5, h6]
theorem flat_unique {α : Type} {k : Nat} {enc : α → List Value} (hk : ∀ x, (enc x).length = k) : ∀ {xs ys : List α}, (∀ x ∈ xs, ∀ y ∈ ys, enc x = enc y → x = y) → xs.length = ys.length → xs.flatMap enc = ys.flatMap enc → xs = ys
  | [], [], _, _, _ => rfl
  | [], y :: ys, _, hl, _ => by cases hl
  | x :: xs, [], _, hl, _ => by cases hl
  | x :: xs, y :: ys, hi, hl, e => by
    rw [List.flatMap_cons, List.flatMap_cons] at e
    obtain ⟨e1, e2⟩ := List.append_inj e (by rw [hk, hk])
    rw [hi x List.mem_cons_self y List.mem_cons_self e1, flat_unique hk (fun x hx y hy => hi x (List.mem_cons_of_mem _ hx) y (List.mem_cons_of_mem _ hy)) (by simpa using hl) e2]
theorem cells_of_cell {w : World} {b o : Nat} {v : Value} (h : w.cell? ⟨b, o, none⟩ = some v) : ∃ c t p, w.heap[b]? = some (.cells c t p) := by
  unfold World.cell? at h
  split at h
  · exact ⟨_, _, _, by assumption⟩
  · cases h
theorem sUses_cells {α : Type} {k : Nat} {enc : α → List Value} {Ok : World → α → Prop} (hk : ∀ x, (enc x).length = k) (h0 : 0 < k) {w : World} {a : Option Addr} {xs : List α} (h : SliceOf k enc Ok w a xs) {b : Nat} (hu : sUses a xs b) : ∃ c t p, w.heap[b]? = some (.cells c t p) := by
  obtain ⟨hne, ad, rfl, rfl⟩ := hu
  obtain ⟨b, off, x, hab, _, _, hc, _⟩ := h.at_ (List.length_pos_iff.2 hne)
  obtain rfl := Option.some.inj hab
  exact cells_of_cell (hc 0 _ (List.getElem?_eq_getElem (by rw [hk]; exact h0)))
theorem Row.uses_cells {w : World} {r : Row} (h : r.lies w) {b : Nat} (hu : r.uses b) : ∃ c t p, w.heap[b]? = some (.cells c t p) := sUses_cells (k := 5) (enc := Run.enc) (fun _ => rfl) (by decide) h hu
theorem Ev.uses_cells {w : World} {x : Ev} (h : x.lies w) {b : Nat} (hu : x.uses b) : ∃ c t p, w.heap[b]? = some (.cells c t p) := by
  rcases hu with hu | ⟨r, hr, hu⟩
  · exact sUses_cells (k := 1) (enc := Row.enc) (fun _ => rfl) (by decide) h hu
  · exact Row.uses_cells (rows_each h hr) hu
theorem Chg.uses_cells {w : World} {x : Chg} (h : x.lies w) {b : Nat} (hu : x.uses b) : ∃ c t p, w.heap[b]? = some (.cells c t p) := hu.elim (Ev.uses_cells h.1) (Ev.uses_cells h.2)
/-- Changes in a row of the call's own: each lies in memory of the call's own, apart from the row. -/
def InvMem (B : Nat) (v : Value) (ys : List Chg) (W : World) : Prop :=
  W.ownsRow B 54 59 v ys.length (ys.flatMap Chg.enc) ∧ ∀ z ∈ ys, z.lies W ∧ ∀ b, z.uses b → v.ownBlock ≠ some b ∧ B ≤ b
theorem InvMem.start (B : Nat) (W : World) : InvMem B (.slice none 0 0) [] W := ⟨World.ownsRow_nil _ _ _ _, fun z hz => by simp at hz⟩
theorem InvMem.unique {B : Nat} {v : Value} {ys zs : List Chg} {W : World} (h : InvMem B v ys W) (h' : InvMem B v zs W) : ys = zs := by
  have hb : ys.length = zs.length ∧ ys.flatMap Chg.enc = zs.flatMap Chg.enc := by
    rcases h.1.2 with ⟨rfl, hn⟩ | ⟨g, cap, cur, rfl, hb, hg, _, _, _, ht⟩
    · rcases h'.1.2 with ⟨_, hn'⟩ | ⟨g', cap', cur', e, _⟩
      · rw [List.eq_nil_of_length_eq_zero hn, List.eq_nil_of_length_eq_zero hn']
        exact ⟨rfl, rfl⟩
      · cases e
    · rcases h'.1.2 with ⟨e, _⟩ | ⟨g', cap', cur', e, _, hg', _, _, _, ht'⟩
      · cases e
      · simp only [Value.slice.injEq, Option.some.injEq, Addr.mk.injEq, and_true] at e
        obtain ⟨rfl, hl, rfl⟩ := e
        rw [hg] at hg'
        simp only [Option.some.injEq, Obj.cells.injEq, and_true] at hg'
        obtain rfl := hg'
        exact ⟨hl, by rw [← ht, ← ht', hl]⟩
  exact flat_unique (k := 59) Chg.len (fun x hx y hy e => Chg.unique (h.2 x hx).1 (h'.2 y hy).1 e) hb.1 hb.2
/-- What keeps the blocks that it speaks of keeps it. -/
theorem InvMem.frame {B : Nat} {v : Value} {ys : List Chg} {W W' : World} (h : InvMem B v ys W) (hs : W.heap.size ≤ W'.heap.size) (hb : ∀ b, B ≤ b → (v.ownBlock = some b ∨ ∃ z ∈ ys, z.uses b) → W'.heap[b]? = W.heap[b]?) : InvMem B v ys W' := by
  refine ⟨⟨h.1.1, ?_⟩, fun z hz => ⟨Chg.deep.frame z W W' (h.2 z hz).1 hs fun b hu => hb b ((h.2 z hz).2 b hu).2 (.inr ⟨z, hz, hu⟩), (h.2 z hz).2⟩⟩
  rcases h.1.2 with hn | ⟨g, cap, cur, rfl, hB, hg, rest⟩
  · exact .inl hn
  · exact .inr ⟨g, cap, cur, rfl, hB, (hb g hB (.inl rfl)).trans hg, rest⟩
theorem InvMem.cells {B : Nat} {v : Value} {ys : List Chg} {W : World} (h : InvMem B v ys W) {b : Nat} (hu : v.ownBlock = some b ∨ ∃ z ∈ ys, z.uses b) : ∃ c t p, W.heap[b]? = some (.cells c t p) := by
  rcases hu with hu | ⟨z, hz, hu⟩
  · rcases h.1.2 with ⟨rfl, _⟩ | ⟨g, cap, cur, rfl, _, hg, _⟩
    · cases hu
    · obtain rfl : g = b := by simpa [Value.ownBlock] using hu
      exact ⟨_, _, _, hg⟩
  · exact Chg.uses_cells (h.2 z hz).1 hu
theorem InvMem.later {B : Nat} {v : Value} {ys : List Chg} {W W' : World} (h : InvMem B v ys W) (hb : Below W.heap.size W W') : InvMem B v ys W' :=
  h.frame hb.size fun b _ hu => by
    obtain ⟨c, t, p, hc⟩ := h.cells hu
    exact hb.block b (Array.getElem?_eq_some_iff.1 hc).1
theorem InvMem.aside {B g : Nat} {v : Value} {ys : List Chg} {W W' : World} (h : InvMem B v ys W) (hs : W.heap.size ≤ W'.heap.size) (ha : Aside W g W') (hv : v.ownBlock ≠ some g) (hu : ∀ z ∈ ys, ¬ z.uses g) : InvMem B v ys W' :=
  h.frame hs fun b _ hb => by
    obtain ⟨c, t, p, hc⟩ := h.cells hb
    refine ha b (Array.getElem?_eq_some_iff.1 hc).1 fun e => ?_
    subst e
    rcases hb with hb | ⟨z, hz, hb⟩
    · exact hv hb
    · exact hu z hz hb
theorem InvMem.kept {B : Nat} {v : Value} {ys : List Chg} {W W' : World} {row : Option Nat} (h : InvMem B v ys W) (hg : W.grownBy W' row) (hr : ∀ r, row = some r → ∃ o : Obj, W.heap[r]? = some o ∧ o.isCells = false) : InvMem B v ys W' :=
  h.frame hg.size fun b _ hb => by
    obtain ⟨c, t, p, hc⟩ := h.cells hb
    refine hg.block b (Array.getElem?_eq_some_iff.1 hc).1 fun e => ?_
    obtain ⟨o, ho, hn⟩ := hr b e.symm
    rw [hc] at ho
    cases ho
    cases hn
theorem fill_row (Z : List Value) (k : Nat) (hk : Z.length = k) (h0 : 0 < k) (cells : Array Value) (h : cells.size = k) : Instr.fill (fun i => some (i * k, k)) cells [(0, .agg Z.toArray)] = some Z.toArray := by
  obtain ⟨r, hr, hsz, hc⟩ := Great.fill_dense (s := k) h0 [.agg Z.toArray] 0 cells (fun v hv => by rw [List.mem_singleton.1 hv]; simpa [Value.cells] using hk) (by simp [h])
  rw [show ([Value.agg Z.toArray].zipIdx 0).map (fun x => (x.2, x.1)) = [(0, Value.agg Z.toArray)] from rfl] at hr
  rw [hr]
  congr 1
  apply Array.ext_getElem?
  intro j
  rw [hc j]
  by_cases hj : j < k
  · rw [if_pos (by simp; exact hj), Nat.div_eq_of_lt hj, Nat.mod_eq_of_lt hj]
    rfl
  · rw [if_neg (by simp; omega), Array.getElem?_eq_none (by omega), Array.getElem?_eq_none (by simp; omega)]
theorem wpList_literal_row {P : Program} {ops : Array Oper} {rest : List Oper} {o : Oper} {a : Act} {w : World} {Q : Exit → Act → World → Prop} (hg : o.guard = none) (t e : TypeId) (x : Operand) (ho : o.op = .buildSlice t 1 #[(0, x)])
    (Z : List Value) (hx : a.eval x = .agg Z.toArray) (ie : TypeInfo) (z : Value) (k : Nat) (hk : Z.length = k) (h0 : 0 < k) (h1 : k ≤ 1000)
    (hu : P.underlying t = some (.slice e)) (hie : P.info? e = some ie) (hz : ie.zero = some z) (hsz : ie.size = k)
    (h : wpList P ops Q rest (a.put o.dst (.slice (some ⟨w.heap.size, 0, none⟩) 1 1)) (w.alloc (.cells Z.toArray e))) : wpList P ops Q (o :: rest) a w :=
  wpList_buildSlice hg t e 1 #[(0, x)] ho Z.toArray ie z hu hie hz (by rw [hsz]; omega) (by rw [hsz]; omega) (by
    rw [hsz]
    simp only [List.map_toArray, List.map_cons, List.map_nil, hx]
    exact fill_row Z k hk h0 _ (by simp)) h
end Go.Proofs.YtnlnmbcaongehaaGreatDoor
