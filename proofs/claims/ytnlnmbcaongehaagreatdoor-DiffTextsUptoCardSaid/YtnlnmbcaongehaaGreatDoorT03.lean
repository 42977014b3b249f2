/- The contract of the reference's add: a name put behind a list of the call's own, where a condition holds. The contract of diff.fields where the section is 1. (printed by gen_fields.py) The contract of the reference's Fields where the section is 1. (printed by gen_reffields.py) The contract of diff.fields where the section is 2. (printed by gen_fields.py) The contract of the reference's Fields where the section is 2. (printed by gen_reffields.py) The contract of the reference's Fields where the section is 3. (printed by gen_reffields.py) The contract of diff.fields where the section is 4. (printed by gen_fields.py) The contract of the reference's Fields where the section is 4. (printed by gen_reffields.py) -/
import Derived.Deep.RegionHeld3
import Derived.Test.YtnlnmbcaongehaaGreatDoorBase19
import Derived.Test.YtnlnmbcaongehaaGreatDoorBase17
import Derived.Test.YtnlnmbcaongehaaGreatDoorBase09
import Derived.Test.YtnlnmbcaongehaaGreatDoorBase08
import Derived.Test.YtnlnmbcaongehaaGreatDoorBase07
import Derived.Test.YtnlnmbcaongehaaGreatDoorBase06
import Derived.Test.YtnlnmbcaongehaaGreatDoorT00
import Derived.Test.YtnlnmbcaongehaaGreatDoorBase03
import Derived.Test.YtnlnmbcaongehaaGreatDoorBase02
import Derived.Test.YtnlnmbcaongehaaGreatDoorBase01
import Derived.Test.YtnlnmbcaongehaaGreatDoorBase00
import Derived.Test.YtnlnmbcaongehaaGreatDoorBase05
import Derived.Test.YtnlnmbcaongehaaGreatDoorBase16
import Derived.Test.YtnlnmbcaongehaaGreatDoorBase12
import Derived.Test.YtnlnmbcaongehaaGreatDoorBase10
import Derived.Test.YtnlnmbcaongehaaGreatDoorBase04
import Derived.Test.YtnlnmbcaongehaaGreatDoorBase11
import Derived.Test.YtnlnmbcaongehaaGreatDoorBase15
import Derived.Test.YtnlnmbcaongehaaGreatDoorBase14
import Derived.Test.YtnlnmbcaongehaaGreatDoorBase13
set_option linter.unusedVariables false
set_option linter.unusedSimpArgs false
namespace Go.Proofs.YtnlnmbcaongehaaGreatDoor
open Go.RowKit
/-- A list of strings in memory of the call's own, which began at B. -/
def AddPost (B : Nat) (xs : List ByteArray) (w : World) (e : Ending) (w' : World) : Prop := ∃ v, e = .returned v ∧ w'.ownsRow B 9 1 v xs.length (xs.flatMap strV) ∧ Below B w w'
theorem add_len {xs : List ByteArray} {nm : ByteArray} {h : Bool} {k B : Nat} {v : Value} {w : World} {ys : List Value} (ho : w.ownsRow B 9 1 v (xs ++ if h = true then [nm] else []).length ys) (hk : xs.length ≤ k) : (xs ++ if h = true then [nm] else []).length ≤ k + 1 := by
  cases h <;> simp <;> omega
theorem namesOf_nil : namesOf [] = [] := rfl
theorem namesOf_cons (f : Fld) (fs : List Fld) : namesOf (f :: fs) = (if f.differs = true then [f.name] else []) ++ namesOf fs := by
  unfold namesOf
  cases h : f.differs <;> simp [List.filter_cons, h]
set_option maxRecDepth 100000 in
set_option maxHeartbeats 3200000 in
theorem add_calls (B : Nat) (v : Value) (xs : List ByteArray) (name : ByteArray) (h : Bool) (w : World) (hB : B ≤ w.heap.size) (hx : w.ownsRow B 9 1 v xs.length (xs.flatMap strV)) (hn : xs.length ≤ 8) :
    Calls Tryz.prog 63 #[v, .string name, .bool h] w (AddPost B (xs ++ if h = true then [name] else []) w) := by
  obtain ⟨va, vc, rfl⟩ := own_slice hx
  cases h
  · have HQ := Lib.hid (show AddPost B (xs ++ if false = true then [name] else []) w (.returned (.slice va xs.length vc)) w from ⟨_, rfl, by simpa using hx, Below.refl _ _⟩)
    generalize AddPost B (xs ++ if false = true then [name] else []) w = Q at *
    clear hx
    go_enter Tryz.func63, Tryz.ntmps63
    go_wp2_with fail
    exact HQ.out
  · have HQ := Lib.hid (fun (v' : Value) (w' : World) (h1 : w'.ownsRow B 9 1 v' (xs.length + 1) (xs.flatMap strV ++ [.string name])) (hg : (w.alloc (.cells #[.string name] 9)).grownBy w' (Value.slice va xs.length vc).ownBlock) => (show AddPost B (xs ++ if true = true then [name] else []) w (.returned v') w' from ⟨v', rfl, by simpa [strV] using h1, ((Below.refl B w).alloc hB _).grown hg (by simp; omega) (fun j hj => (hx.lt j hj).1)⟩))
    generalize AddPost B (xs ++ if true = true then [name] else []) w = Q at *
    obtain ⟨i0, hi, hz0, hz1, hz2⟩ := info_parts Tryz.info9
    have JI := Lib.hid hi; have J0 := Lib.hid hz0; have J1 := Lib.hid hz1; have J2 := Lib.hid hz2
    clear hi hz0 hz1 hz2
    have HOW := Lib.hid hx
    generalize xs.flatMap strV = fl at *
    generalize xs.length = nl at *
    clear hx
    go_enter Tryz.func63, Tryz.ntmps63
    go_wp2_with (at_builtin; refine wpList_append_at _ _ rfl (.tmp 8) (.tmp 10) 55 rfl B 9 i0 _ 1 16 Tryz.underlying55 JI.out J0.out J1.out J2.out rfl (by decide) _ _ _ rfl HOW.out _ rfl rfl rfl ?h1 ?h63 ?hb ?hbase ?_)
    case h1 => first | rfl | simp [Value.oneCell']
    case h63 => unfold maxLen; omega
    case hb => omega
    case hbase => first | omega | (simp; omega)
    intro v' w3 hown' hgrow _
    have HE := Lib.hid (HQ.out v' w3 hown' hgrow)
    clear hown' hgrow HQ HOW
    go_wp2_with fail
    exact HE.out
end Go.Proofs.YtnlnmbcaongehaaGreatDoor
namespace Go.Proofs.YtnlnmbcaongehaaGreatDoor
open Go.RowKit
theorem fld_lit1 {w w' : World} (fs : List Fld) (cs : Array Value) (hs : cs.toList = fs.flatMap Fld.enc) (hb : Below w.heap.size w w') : SliceOf 2 Fld.enc Flat (w'.alloc (.cells cs 117)) (some ⟨w'.heap.size, 0, none⟩) fs ∧ Below w.heap.size w (w'.alloc (.cells cs 117)) := by
  refine ⟨.inr ⟨w'.heap.size, 0, rfl, by simp, fun i x hx => ⟨fun j v hv => ?_, trivial⟩⟩, hb.alloc hb.size _⟩
  rw [show 0 + i * 2 + j = i * 2 + j by omega, cell_of_row _ _ _ cs 117 (0, 0) (heap_alloc_last w' _)]
  have := flat_at Fld.enc 2 (fun _ => rfl) fs i x j v hx hv
  rw [← hs] at this
  simpa using this
set_option maxRecDepth 100000 in
set_option maxHeartbeats 6400000 in
theorem fldsHd_calls (c : Chg) (w : World) (hsec : c.sec = 1) : Calls Tryz.prog 62 #[.agg c.enc.toArray] w (FldsPost (fieldsOf c) w) := by
  have HQ := Lib.hid (fun (a : Option Addr) (cap n : Nat) (w' : World) (hn : n = (fieldsOf c).length) (h : SliceOf 2 Fld.enc Flat w' a (fieldsOf c) ∧ Below w.heap.size w w') => (show FldsPost (fieldsOf c) w (.returned (.slice a n cap)) w' from ⟨a, cap, by rw [hn], h.1, h.2⟩))
  generalize FldsPost (fieldsOf c) w = Q at *
  obtain ⟨sec, id, name, ad, gn, oh, nh, rg, nr, oe, ne, oc, nc⟩ := c
  simp only at hsec
  subst hsec
  generalize hcl : Chg.enc _ = cl
  have hc0 : cl.toArray[0]? = some (.int .u8 1) := by rw [← hcl]; rfl
  have hc5 : cl.toArray[5]? = some (.string oh.title) := by rw [← hcl]; rfl
  have hc6 : cl.toArray[6]? = some (.string oh.lang) := by rw [← hcl]; rfl
  have hc7 : cl.toArray[7]? = some (.int .u8 oh.rate) := by rw [← hcl]; rfl
  have hc8 : cl.toArray[8]? = some (.bool oh.drop) := by rw [← hcl]; rfl
  have hc9 : cl.toArray[9]? = some (.int .i64 oh.last) := by rw [← hcl]; rfl
  have hc10 : cl.toArray[10]? = some (.string nh.title) := by rw [← hcl]; rfl
  have hc11 : cl.toArray[11]? = some (.string nh.lang) := by rw [← hcl]; rfl
  have hc12 : cl.toArray[12]? = some (.int .u8 nh.rate) := by rw [← hcl]; rfl
  have hc13 : cl.toArray[13]? = some (.bool nh.drop) := by rw [← hcl]; rfl
  have hc14 : cl.toArray[14]? = some (.int .i64 nh.last) := by rw [← hcl]; rfl
  have f0 := box_cell w cl.toArray 54 0 _ hc0
  have f5 := box_cell w cl.toArray 54 5 _ hc5
  have f6 := box_cell w cl.toArray 54 6 _ hc6
  have f7 := box_cell w cl.toArray 54 7 _ hc7
  have f8 := box_cell w cl.toArray 54 8 _ hc8
  have f9 := box_cell w cl.toArray 54 9 _ hc9
  have f10 := box_cell w cl.toArray 54 10 _ hc10
  have f11 := box_cell w cl.toArray 54 11 _ hc11
  have f12 := box_cell w cl.toArray 54 12 _ hc12
  have f13 := box_cell w cl.toArray 54 13 _ hc13
  have f14 := box_cell w cl.toArray 54 14 _ hc14
  clear hcl hc0 hc5 hc6 hc7 hc8 hc9 hc10 hc11 hc12 hc13 hc14
  have hb0 : Below (w.heap.size + 1) (w.alloc (.cells cl.toArray 54)) (w.alloc (.cells cl.toArray 54)) := Below.refl _ _
  have hs0 : (w.alloc (.cells cl.toArray 54)).heap.size = w.heap.size + 1 := World.size_alloc _ _
  have HB := Lib.hid (fun (w1 : World) (h : Below (w.heap.size + 1) (w.alloc (.cells cl.toArray 54)) w1) => box_below h)
  generalize hW0 : w.alloc (.cells cl.toArray 54) = W0 at *
  have HW0 := Lib.hid hW0
  have HSZ := Lib.hid hs0
  have hbd : Below (w.heap.size + 1) W0 W0.drew := hb0.drew
  have HAD := Lib.hid (fun (o : Obj) => ((hb0.alloc (by rw [HSZ.out]; exact Nat.le_refl _) o).drew : Below (w.heap.size + 1) W0 (W0.alloc o).drew))
  have HT0 := Lib.hid (fun (w2 w3 : World) (h : Below (w.heap.size + 1) W0 w2) (h3 : Below w2.heap.size w2 w3) => (h.trans (h3.mono (by have := h.size; rw [HSZ.out] at this; exact this)) : Below (w.heap.size + 1) W0 w3))
  have HLT := Lib.hid (fun (w2 : World) (h : Below (w.heap.size + 1) W0 w2) => (show w.heap.size + 1 ≤ w2.heap.size by have := h.size; rw [HSZ.out] at this; exact this))
  clear hW0 hs0
  go_enter Tryz.func62, Tryz.ntmps62
  go_upto_region 1 with fail
  rw [HW0.out]
  go_upto_region 3 with fail
  go_cut [3, 4] (fun v1 v2 wx => ∃ g1 g2 : Nat, v1 = .pointer (some ⟨g1, 0, none⟩) ∧ v2 = .pointer (some ⟨g2, 0, none⟩) ∧ wx.heap[g1]? = some (.cells #[Value.string oh.title, .string oh.lang, .int .u8 oh.rate, .bool oh.drop, .int .i64 oh.last] 41 (0, 0)) ∧ wx.heap[g2]? = some (.cells #[Value.string nh.title, .string nh.lang, .int .u8 nh.rate, .bool nh.drop, .int .i64 nh.last] 41 (0, 0)) ∧ Below (w.heap.size + 1) W0 wx)
  case first =>
    go_region_held3 (fun w' => Below (w.heap.size + 1) W0 w') (repeat (first | with_reducible assumption | with_reducible exact hbd | with_reducible exact HAD.out _ | with_reducible refine Below.drew ?_ | with_reducible refine Below.setCell ?_ (by dsimp only; first | omega | (have := HSZ.out; simp; omega)) _ | with_reducible refine Below.alloc ?_ (by first | (rw [HSZ.out]; exact Nat.le_refl _) | (simp [HSZ.out])) _)) (fail)
    all_goals
      go_wp2_with fail
      go_meet
    · exact ⟨_, _, rfl, rfl, alloc_at (heap_alloc_last _ _), alloc_last' _ (by simp), ((hb0.alloc (by rw [HSZ.out]; exact Nat.le_refl _) _).alloc (by simp [HSZ.out]) _).drew⟩
    · exact ⟨_, _, rfl, rfl, alloc_last' _ (by simp), alloc_at (heap_alloc_last _ _), ((hb0.alloc (by rw [HSZ.out]; exact Nat.le_refl _) _).alloc (by simp [HSZ.out]) _).drew⟩
  case rest =>
    obtain ⟨g1, g2, rfl, rfl, hg1, hg2, hcw⟩ := hcut
    have hl1 := (Array.getElem?_eq_some_iff.1 hg1).1
    have hl2 := (Array.getElem?_eq_some_iff.1 hg2).1
    have k1 : ∀ (w' : World), Below wc.heap.size wc w' → ∀ (j : Nat), w'.cell? ⟨g1, j, none⟩ = _ := fun w' h j => cell_of_row _ _ j _ 41 (0, 0) ((h.block g1 hl1).trans hg1)
    have k2 : ∀ (w' : World), Below wc.heap.size wc w' → ∀ (j : Nat), w'.cell? ⟨g2, j, none⟩ = _ := fun w' h j => cell_of_row _ _ j _ 41 (0, 0) ((h.block g2 hl2).trans hg2)
    have HCW := Lib.hid hcw
    have hwc : Below wc.heap.size wc wc := Below.refl _ _
    clear f0 f5 f6 f7 f8 f9 f10 f11 f12 f13 f14 hb0 hbd hg1 hg2 hl1 hl2 hcw HAD
    have k1' := k1 wc hwc
    have k2' := k2 wc hwc
    clear k1 k2
    go_wp2_with fail
    all_goals
      clear k1' k2'
      have hbf := HB.out _ HCW.out
      exact HQ.out _ _ _ _ (by simp [fieldsOf]) (fld_lit1 _ _ (by clear HQ; simp_all [fieldsOf, Fld.enc, wTITLE, wLANG, wRATE, wLAST, bne]) hbf)
end Go.Proofs.YtnlnmbcaongehaaGreatDoor
namespace Go.Proofs.YtnlnmbcaongehaaGreatDoor
open Go.RowKit
set_option maxRecDepth 100000 in
set_option maxHeartbeats 6400000 in
theorem refFldsHd_calls (c : Chg) (w : World) (hsec : c.sec = 1) (had : c.added = false) (hgn : c.gone = false) : Calls Tryz.prog 20 #[.agg c.enc.toArray] w (StrsPost (fieldNames c) w) := by
  have hfn0 : fieldNames c = namesOf (fieldsOf c) := by simp [fieldNames, had, hgn]
  have HQ := Lib.hid (fun (v : Value) (w' : World) (xs : List ByteArray) (hx : xs = namesOf (fieldsOf c)) (B : Nat) (hB : w.heap.size ≤ B) (h1 : w'.ownsRow B 9 1 v xs.length (xs.flatMap strV)) (h2 : Below w.heap.size w w') => (show StrsPost (fieldNames c) w (.returned v) w' from ⟨v, rfl, by rw [hfn0, ← hx]; exact ⟨h1.1, h1.2.imp (fun h => h) (fun ⟨g, cap, cur, q1, q2, q3⟩ => ⟨g, cap, cur, q1, Nat.le_trans hB q2, q3⟩)⟩, h2⟩))
  generalize StrsPost (fieldNames c) w = Q at *
  clear hfn0
  obtain ⟨sec, id, name, ad, gn, oh, nh, rg, nr, oe, ne, oc, nc⟩ := c
  simp only at hsec had hgn
  subst had hgn
  subst hsec
  generalize hcl : Chg.enc _ = cl
  have hc3 : cl.toArray[3]? = some (.bool false) := by rw [← hcl]; rfl
  have hc4 : cl.toArray[4]? = some (.bool false) := by rw [← hcl]; rfl
  have hc0 : cl.toArray[0]? = some (.int .u8 1) := by rw [← hcl]; rfl
  have hc5 : cl.toArray[5]? = some (.string oh.title) := by rw [← hcl]; rfl
  have hc6 : cl.toArray[6]? = some (.string oh.lang) := by rw [← hcl]; rfl
  have hc7 : cl.toArray[7]? = some (.int .u8 oh.rate) := by rw [← hcl]; rfl
  have hc8 : cl.toArray[8]? = some (.bool oh.drop) := by rw [← hcl]; rfl
  have hc9 : cl.toArray[9]? = some (.int .i64 oh.last) := by rw [← hcl]; rfl
  have hc10 : cl.toArray[10]? = some (.string nh.title) := by rw [← hcl]; rfl
  have hc11 : cl.toArray[11]? = some (.string nh.lang) := by rw [← hcl]; rfl
  have hc12 : cl.toArray[12]? = some (.int .u8 nh.rate) := by rw [← hcl]; rfl
  have hc13 : cl.toArray[13]? = some (.bool nh.drop) := by rw [← hcl]; rfl
  have hc14 : cl.toArray[14]? = some (.int .i64 nh.last) := by rw [← hcl]; rfl
  have f3 := box_cell w cl.toArray 54 3 _ hc3
  have f4 := box_cell w cl.toArray 54 4 _ hc4
  have f0 := box_cell w cl.toArray 54 0 _ hc0
  have f5 := box_cell w cl.toArray 54 5 _ hc5
  have f6 := box_cell w cl.toArray 54 6 _ hc6
  have f7 := box_cell w cl.toArray 54 7 _ hc7
  have f8 := box_cell w cl.toArray 54 8 _ hc8
  have f9 := box_cell w cl.toArray 54 9 _ hc9
  have f10 := box_cell w cl.toArray 54 10 _ hc10
  have f11 := box_cell w cl.toArray 54 11 _ hc11
  have f12 := box_cell w cl.toArray 54 12 _ hc12
  have f13 := box_cell w cl.toArray 54 13 _ hc13
  have f14 := box_cell w cl.toArray 54 14 _ hc14
  clear hcl hc3 hc4 hc0 hc5 hc6 hc7 hc8 hc9 hc10 hc11 hc12 hc13 hc14
  have hb0 : Below (w.heap.size + 1) (w.alloc (.cells cl.toArray 54)) (w.alloc (.cells cl.toArray 54)) := Below.refl _ _
  have hs0 : (w.alloc (.cells cl.toArray 54)).heap.size = w.heap.size + 1 := World.size_alloc _ _
  have HB := Lib.hid (fun (w1 : World) (h : Below (w.heap.size + 1) (w.alloc (.cells cl.toArray 54)) w1) => box_below h)
  generalize hW0 : w.alloc (.cells cl.toArray 54) = W0 at *
  have HW0 := Lib.hid hW0
  have HSZ := Lib.hid hs0
  have hbd : Below (w.heap.size + 1) W0 W0.drew := hb0.drew
  have HAD := Lib.hid (fun (o : Obj) => ((hb0.alloc (by rw [HSZ.out]; exact Nat.le_refl _) o).drew : Below (w.heap.size + 1) W0 (W0.alloc o).drew))
  have HT0 := Lib.hid (fun (w2 w3 : World) (h : Below (w.heap.size + 1) W0 w2) (h3 : Below w2.heap.size w2 w3) => (h.trans (h3.mono (by have := h.size; rw [HSZ.out] at this; exact this)) : Below (w.heap.size + 1) W0 w3))
  have HLT := Lib.hid (fun (w2 : World) (h : Below (w.heap.size + 1) W0 w2) => (show w.heap.size + 1 ≤ w2.heap.size by have := h.size; rw [HSZ.out] at this; exact this))
  clear hW0 hs0
  go_enter Tryz.func20, Tryz.ntmps20
  go_upto_region 1 with fail
  rw [HW0.out]
  go_upto_region 6 with fail
  go_cut [4, 5] (fun v1 v2 wx => ∃ g1 g2 : Nat, v1 = .pointer (some ⟨g1, 0, none⟩) ∧ v2 = .pointer (some ⟨g2, 0, none⟩) ∧ wx.heap[g1]? = some (.cells #[Value.string oh.title, .string oh.lang, .int .u8 oh.rate, .bool oh.drop, .int .i64 oh.last] 41 (0, 0)) ∧ wx.heap[g2]? = some (.cells #[Value.string nh.title, .string nh.lang, .int .u8 nh.rate, .bool nh.drop, .int .i64 nh.last] 41 (0, 0)) ∧ Below (w.heap.size + 1) W0 wx)
  case first =>
    go_region_held3 (fun w' => Below (w.heap.size + 1) W0 w') (repeat (first | with_reducible assumption | with_reducible exact hbd | with_reducible exact HAD.out _ | with_reducible refine Below.drew ?_ | with_reducible refine Below.setCell ?_ (by dsimp only; first | omega | (have := HSZ.out; simp; omega)) _ | with_reducible refine Below.alloc ?_ (by first | (rw [HSZ.out]; exact Nat.le_refl _) | (simp [HSZ.out])) _)) (fail)
    all_goals
      go_wp2_with fail
      go_meet
    · exact ⟨_, _, rfl, rfl, alloc_at (heap_alloc_last _ _), alloc_last' _ (by simp), ((hb0.alloc (by rw [HSZ.out]; exact Nat.le_refl _) _).alloc (by simp [HSZ.out]) _).drew⟩
    · exact ⟨_, _, rfl, rfl, alloc_last' _ (by simp), alloc_at (heap_alloc_last _ _), ((hb0.alloc (by rw [HSZ.out]; exact Nat.le_refl _) _).alloc (by simp [HSZ.out]) _).drew⟩
  case rest =>
    obtain ⟨g1, g2, rfl, rfl, hg1, hg2, hcw⟩ := hcut
    have hl1 := (Array.getElem?_eq_some_iff.1 hg1).1
    have hl2 := (Array.getElem?_eq_some_iff.1 hg2).1
    have k1 : ∀ (w' : World), Below wc.heap.size wc w' → ∀ (j : Nat), w'.cell? ⟨g1, j, none⟩ = _ := fun w' h j => cell_of_row _ _ j _ 41 (0, 0) ((h.block g1 hl1).trans hg1)
    have k2 : ∀ (w' : World), Below wc.heap.size wc w' → ∀ (j : Nat), w'.cell? ⟨g2, j, none⟩ = _ := fun w' h j => cell_of_row _ _ j _ 41 (0, 0) ((h.block g2 hl2).trans hg2)
    have HCW := Lib.hid hcw
    have hwc : Below wc.heap.size wc wc := Below.refl _ _
    have HA := Lib.hid (fun (v : Value) (xs : List ByteArray) (nm : ByteArray) (h : Bool) (w1 : World) (hb : Below wc.heap.size wc w1) (hx : w1.ownsRow wc.heap.size 9 1 v xs.length (xs.flatMap strV)) (hn : xs.length ≤ 8) => add_calls wc.heap.size v xs nm h w1 hb.size hx hn)
    have HO0 := Lib.hid (show wc.ownsRow wc.heap.size 9 1 (.slice none 0 0) ([] : List ByteArray).length (([] : List ByteArray).flatMap strV) from World.ownsRow_nil _ _ _ _)
    have HD0 := Lib.hid (show Below wc.heap.size wc wc from hwc)
    clear f0 f5 f6 f7 f8 f9 f10 f11 f12 f13 f14 f3 f4 hb0 hbd hg1 hg2 hl1 hl2 hcw HAD
    have j1 := k1 _ HD0.out
    have j2 := k2 _ HD0.out
    have hq0 : ([] : List ByteArray).length ≤ 0 := Nat.le_refl _
    go_wp2_with (first
      | (go_at_call 63; (with_reducible refine (HA.out _ _ _ _ _ HD3.out HO3.out (Nat.le_trans hq3 (by decide))).mono ?_); rintro e y4 ⟨v4, rfl, ho4, hb4⟩; have HO4 := Lib.hid ho4; have HD4 := Lib.hid (HD3.out.trans hb4); have hq4 := add_len ho4 hq3; have j1 := k1 _ HD4.out; have j2 := k2 _ HD4.out; clear ho4 hb4)
      | (go_at_call 63; (with_reducible refine (HA.out _ _ _ _ _ HD2.out HO2.out (Nat.le_trans hq2 (by decide))).mono ?_); rintro e y3 ⟨v3, rfl, ho3, hb3⟩; have HO3 := Lib.hid ho3; have HD3 := Lib.hid (HD2.out.trans hb3); have hq3 := add_len ho3 hq2; have j1 := k1 _ HD3.out; have j2 := k2 _ HD3.out; clear ho3 hb3)
      | (go_at_call 63; (with_reducible refine (HA.out _ _ _ _ _ HD1.out HO1.out (Nat.le_trans hq1 (by decide))).mono ?_); rintro e y2 ⟨v2, rfl, ho2, hb2⟩; have HO2 := Lib.hid ho2; have HD2 := Lib.hid (HD1.out.trans hb2); have hq2 := add_len ho2 hq1; have j1 := k1 _ HD2.out; have j2 := k2 _ HD2.out; clear ho2 hb2)
      | (go_at_call 63; (with_reducible refine (HA.out _ _ _ _ _ HD0.out HO0.out (Nat.le_trans hq0 (by decide))).mono ?_); rintro e y1 ⟨v1, rfl, ho1, hb1⟩; have HO1 := Lib.hid ho1; have HD1 := Lib.hid (HD0.out.trans hb1); have hq1 := add_len ho1 hq0; have j1 := k1 _ HD1.out; have j2 := k2 _ HD1.out; clear ho1 hb1))
    all_goals
      refine HQ.out _ _ _ ?_ wc.heap.size (Nat.le_of_succ_le (HLT.out _ HCW.out)) HO4.out (HB.out _ (HT0.out _ _ HCW.out HD4.out))
      clear HQ k1 k2 j1 j2
      simp_all [namesOf_cons, namesOf_nil, fieldsOf, wTITLE, wLANG, wRATE, wLAST, bne]
end Go.Proofs.YtnlnmbcaongehaaGreatDoor
namespace Go.Proofs.YtnlnmbcaongehaaGreatDoor
open Go.RowKit
theorem fld_lit2 {w w' : World} (fs : List Fld) (cs : Array Value) (hs : cs.toList = fs.flatMap Fld.enc) (hb : Below w.heap.size w w') : SliceOf 2 Fld.enc Flat (w'.alloc (.cells cs 117)) (some ⟨w'.heap.size, 0, none⟩) fs ∧ Below w.heap.size w (w'.alloc (.cells cs 117)) := by
  refine ⟨.inr ⟨w'.heap.size, 0, rfl, by simp, fun i x hx => ⟨fun j v hv => ?_, trivial⟩⟩, hb.alloc hb.size _⟩
  rw [show 0 + i * 2 + j = i * 2 + j by omega, cell_of_row _ _ _ cs 117 (0, 0) (heap_alloc_last w' _)]
  have := flat_at Fld.enc 2 (fun _ => rfl) fs i x j v hx hv
  rw [← hs] at this
  simpa using this
set_option maxRecDepth 100000 in
set_option maxHeartbeats 6400000 in
theorem fldsReg_calls (c : Chg) (w : World) (hsec : c.sec = 2) : Calls Tryz.prog 62 #[.agg c.enc.toArray] w (FldsPost (fieldsOf c) w) := by
  have HQ := Lib.hid (fun (a : Option Addr) (cap n : Nat) (w' : World) (hn : n = (fieldsOf c).length) (h : SliceOf 2 Fld.enc Flat w' a (fieldsOf c) ∧ Below w.heap.size w w') => (show FldsPost (fieldsOf c) w (.returned (.slice a n cap)) w' from ⟨a, cap, by rw [hn], h.1, h.2⟩))
  generalize FldsPost (fieldsOf c) w = Q at *
  obtain ⟨sec, id, name, ad, gn, oh, nh, rg, nr, oe, ne, oc, nc⟩ := c
  simp only at hsec
  subst hsec
  generalize hcl : Chg.enc _ = cl
  have hc0 : cl.toArray[0]? = some (.int .u8 2) := by rw [← hcl]; rfl
  have hc15 : cl.toArray[15]? = some (.string rg.name) := by rw [← hcl]; rfl
  have hc16 : cl.toArray[16]? = some (.int .i64 rg.top) := by rw [← hcl]; rfl
  have hc17 : cl.toArray[17]? = some (.int .i64 rg.height) := by rw [← hcl]; rfl
  have hc18 : cl.toArray[18]? = some (.int .i64 rg.left) := by rw [← hcl]; rfl
  have hc19 : cl.toArray[19]? = some (.int .i64 rg.width) := by rw [← hcl]; rfl
  have hc20 : cl.toArray[20]? = some (.int .u8 rg.align) := by rw [← hcl]; rfl
  have hc21 : cl.toArray[21]? = some (.bool rg.bottom) := by rw [← hcl]; rfl
  have hc22 : cl.toArray[22]? = some (.string nr.name) := by rw [← hcl]; rfl
  have hc23 : cl.toArray[23]? = some (.int .i64 nr.top) := by rw [← hcl]; rfl
  have hc24 : cl.toArray[24]? = some (.int .i64 nr.height) := by rw [← hcl]; rfl
  have hc25 : cl.toArray[25]? = some (.int .i64 nr.left) := by rw [← hcl]; rfl
  have hc26 : cl.toArray[26]? = some (.int .i64 nr.width) := by rw [← hcl]; rfl
  have hc27 : cl.toArray[27]? = some (.int .u8 nr.align) := by rw [← hcl]; rfl
  have hc28 : cl.toArray[28]? = some (.bool nr.bottom) := by rw [← hcl]; rfl
  have f0 := box_cell w cl.toArray 54 0 _ hc0
  have f15 := box_cell w cl.toArray 54 15 _ hc15
  have f16 := box_cell w cl.toArray 54 16 _ hc16
  have f17 := box_cell w cl.toArray 54 17 _ hc17
  have f18 := box_cell w cl.toArray 54 18 _ hc18
  have f19 := box_cell w cl.toArray 54 19 _ hc19
  have f20 := box_cell w cl.toArray 54 20 _ hc20
  have f21 := box_cell w cl.toArray 54 21 _ hc21
  have f22 := box_cell w cl.toArray 54 22 _ hc22
  have f23 := box_cell w cl.toArray 54 23 _ hc23
  have f24 := box_cell w cl.toArray 54 24 _ hc24
  have f25 := box_cell w cl.toArray 54 25 _ hc25
  have f26 := box_cell w cl.toArray 54 26 _ hc26
  have f27 := box_cell w cl.toArray 54 27 _ hc27
  have f28 := box_cell w cl.toArray 54 28 _ hc28
  clear hcl hc0 hc15 hc16 hc17 hc18 hc19 hc20 hc21 hc22 hc23 hc24 hc25 hc26 hc27 hc28
  have hb0 : Below (w.heap.size + 1) (w.alloc (.cells cl.toArray 54)) (w.alloc (.cells cl.toArray 54)) := Below.refl _ _
  have hs0 : (w.alloc (.cells cl.toArray 54)).heap.size = w.heap.size + 1 := World.size_alloc _ _
  have HB := Lib.hid (fun (w1 : World) (h : Below (w.heap.size + 1) (w.alloc (.cells cl.toArray 54)) w1) => box_below h)
  generalize hW0 : w.alloc (.cells cl.toArray 54) = W0 at *
  have HW0 := Lib.hid hW0
  have HSZ := Lib.hid hs0
  have hbd : Below (w.heap.size + 1) W0 W0.drew := hb0.drew
  have HAD := Lib.hid (fun (o : Obj) => ((hb0.alloc (by rw [HSZ.out]; exact Nat.le_refl _) o).drew : Below (w.heap.size + 1) W0 (W0.alloc o).drew))
  have HT0 := Lib.hid (fun (w2 w3 : World) (h : Below (w.heap.size + 1) W0 w2) (h3 : Below w2.heap.size w2 w3) => (h.trans (h3.mono (by have := h.size; rw [HSZ.out] at this; exact this)) : Below (w.heap.size + 1) W0 w3))
  have HLT := Lib.hid (fun (w2 : World) (h : Below (w.heap.size + 1) W0 w2) => (show w.heap.size + 1 ≤ w2.heap.size by have := h.size; rw [HSZ.out] at this; exact this))
  clear hW0 hs0
  go_enter Tryz.func62, Tryz.ntmps62
  go_upto_region 1 with fail
  rw [HW0.out]
  go_upto_region 6 with fail
  go_cut [5, 6] (fun v1 v2 wx => ∃ g1 g2 : Nat, v1 = .pointer (some ⟨g1, 0, none⟩) ∧ v2 = .pointer (some ⟨g2, 0, none⟩) ∧ wx.heap[g1]? = some (.cells #[Value.string rg.name, .int .i64 rg.top, .int .i64 rg.height, .int .i64 rg.left, .int .i64 rg.width, .int .u8 rg.align, .bool rg.bottom] 44 (0, 0)) ∧ wx.heap[g2]? = some (.cells #[Value.string nr.name, .int .i64 nr.top, .int .i64 nr.height, .int .i64 nr.left, .int .i64 nr.width, .int .u8 nr.align, .bool nr.bottom] 44 (0, 0)) ∧ Below (w.heap.size + 1) W0 wx)
  case first =>
    go_region_held3 (fun w' => Below (w.heap.size + 1) W0 w') (repeat (first | with_reducible assumption | with_reducible exact hbd | with_reducible exact HAD.out _ | with_reducible refine Below.drew ?_ | with_reducible refine Below.setCell ?_ (by dsimp only; first | omega | (have := HSZ.out; simp; omega)) _ | with_reducible refine Below.alloc ?_ (by first | (rw [HSZ.out]; exact Nat.le_refl _) | (simp [HSZ.out])) _)) (fail)
    all_goals
      go_wp2_with fail
      go_meet
    · exact ⟨_, _, rfl, rfl, alloc_at (heap_alloc_last _ _), alloc_last' _ (by simp), ((hb0.alloc (by rw [HSZ.out]; exact Nat.le_refl _) _).alloc (by simp [HSZ.out]) _).drew⟩
    · exact ⟨_, _, rfl, rfl, alloc_last' _ (by simp), alloc_at (heap_alloc_last _ _), ((hb0.alloc (by rw [HSZ.out]; exact Nat.le_refl _) _).alloc (by simp [HSZ.out]) _).drew⟩
  case rest =>
    obtain ⟨g1, g2, rfl, rfl, hg1, hg2, hcw⟩ := hcut
    have hl1 := (Array.getElem?_eq_some_iff.1 hg1).1
    have hl2 := (Array.getElem?_eq_some_iff.1 hg2).1
    have k1 : ∀ (w' : World), Below wc.heap.size wc w' → ∀ (j : Nat), w'.cell? ⟨g1, j, none⟩ = _ := fun w' h j => cell_of_row _ _ j _ 44 (0, 0) ((h.block g1 hl1).trans hg1)
    have k2 : ∀ (w' : World), Below wc.heap.size wc w' → ∀ (j : Nat), w'.cell? ⟨g2, j, none⟩ = _ := fun w' h j => cell_of_row _ _ j _ 44 (0, 0) ((h.block g2 hl2).trans hg2)
    have HCW := Lib.hid hcw
    have hwc : Below wc.heap.size wc wc := Below.refl _ _
    clear f0 f15 f16 f17 f18 f19 f20 f21 f22 f23 f24 f25 f26 f27 f28 hb0 hbd hg1 hg2 hl1 hl2 hcw HAD
    have k1' := k1 wc hwc
    have k2' := k2 wc hwc
    clear k1 k2
    go_wp2_with fail
    all_goals
      clear k1' k2'
      have hbf := HB.out _ HCW.out
      exact HQ.out _ _ _ _ (by simp [fieldsOf]) (fld_lit2 _ _ (by clear HQ; simp_all [fieldsOf, Fld.enc, wPLACE, wALIGN, wANCHOR, bne]) hbf)
end Go.Proofs.YtnlnmbcaongehaaGreatDoor
namespace Go.Proofs.YtnlnmbcaongehaaGreatDoor
open Go.RowKit
set_option maxRecDepth 100000 in
set_option maxHeartbeats 6400000 in
theorem refFldsReg_calls (c : Chg) (w : World) (hsec : c.sec = 2) (had : c.added = false) (hgn : c.gone = false) : Calls Tryz.prog 20 #[.agg c.enc.toArray] w (StrsPost (fieldNames c) w) := by
  have hfn0 : fieldNames c = namesOf (fieldsOf c) := by simp [fieldNames, had, hgn]
  have HQ := Lib.hid (fun (v : Value) (w' : World) (xs : List ByteArray) (hx : xs = namesOf (fieldsOf c)) (B : Nat) (hB : w.heap.size ≤ B) (h1 : w'.ownsRow B 9 1 v xs.length (xs.flatMap strV)) (h2 : Below w.heap.size w w') => (show StrsPost (fieldNames c) w (.returned v) w' from ⟨v, rfl, by rw [hfn0, ← hx]; exact ⟨h1.1, h1.2.imp (fun h => h) (fun ⟨g, cap, cur, q1, q2, q3⟩ => ⟨g, cap, cur, q1, Nat.le_trans hB q2, q3⟩)⟩, h2⟩))
  generalize StrsPost (fieldNames c) w = Q at *
  clear hfn0
  obtain ⟨sec, id, name, ad, gn, oh, nh, rg, nr, oe, ne, oc, nc⟩ := c
  simp only at hsec had hgn
  subst had hgn
  subst hsec
  generalize hcl : Chg.enc _ = cl
  have hc3 : cl.toArray[3]? = some (.bool false) := by rw [← hcl]; rfl
  have hc4 : cl.toArray[4]? = some (.bool false) := by rw [← hcl]; rfl
  have hc0 : cl.toArray[0]? = some (.int .u8 2) := by rw [← hcl]; rfl
  have hc15 : cl.toArray[15]? = some (.string rg.name) := by rw [← hcl]; rfl
  have hc16 : cl.toArray[16]? = some (.int .i64 rg.top) := by rw [← hcl]; rfl
  have hc17 : cl.toArray[17]? = some (.int .i64 rg.height) := by rw [← hcl]; rfl
  have hc18 : cl.toArray[18]? = some (.int .i64 rg.left) := by rw [← hcl]; rfl
  have hc19 : cl.toArray[19]? = some (.int .i64 rg.width) := by rw [← hcl]; rfl
  have hc20 : cl.toArray[20]? = some (.int .u8 rg.align) := by rw [← hcl]; rfl
  have hc21 : cl.toArray[21]? = some (.bool rg.bottom) := by rw [← hcl]; rfl
  have hc22 : cl.toArray[22]? = some (.string nr.name) := by rw [← hcl]; rfl
  have hc23 : cl.toArray[23]? = some (.int .i64 nr.top) := by rw [← hcl]; rfl
  have hc24 : cl.toArray[24]? = some (.int .i64 nr.height) := by rw [← hcl]; rfl
  have hc25 : cl.toArray[25]? = some (.int .i64 nr.left) := by rw [← hcl]; rfl
  have hc26 : cl.toArray[26]? = some (.int .i64 nr.width) := by rw [← hcl]; rfl
  have hc27 : cl.toArray[27]? = some (.int .u8 nr.align) := by rw [← hcl]; rfl
  have hc28 : cl.toArray[28]? = some (.bool nr.bottom) := by rw [← hcl]; rfl
  have f3 := box_cell w cl.toArray 54 3 _ hc3
  have f4 := box_cell w cl.toArray 54 4 _ hc4
  have f0 := box_cell w cl.toArray 54 0 _ hc0
  have f15 := box_cell w cl.toArray 54 15 _ hc15
  have f16 := box_cell w cl.toArray 54 16 _ hc16
  have f17 := box_cell w cl.toArray 54 17 _ hc17
  have f18 := box_cell w cl.toArray 54 18 _ hc18
  have f19 := box_cell w cl.toArray 54 19 _ hc19
  have f20 := box_cell w cl.toArray 54 20 _ hc20
  have f21 := box_cell w cl.toArray 54 21 _ hc21
  have f22 := box_cell w cl.toArray 54 22 _ hc22
  have f23 := box_cell w cl.toArray 54 23 _ hc23
  have f24 := box_cell w cl.toArray 54 24 _ hc24
  have f25 := box_cell w cl.toArray 54 25 _ hc25
  have f26 := box_cell w cl.toArray 54 26 _ hc26
  have f27 := box_cell w cl.toArray 54 27 _ hc27
  have f28 := box_cell w cl.toArray 54 28 _ hc28
  clear hcl hc3 hc4 hc0 hc15 hc16 hc17 hc18 hc19 hc20 hc21 hc22 hc23 hc24 hc25 hc26 hc27 hc28
  have hb0 : Below (w.heap.size + 1) (w.alloc (.cells cl.toArray 54)) (w.alloc (.cells cl.toArray 54)) := Below.refl _ _
  have hs0 : (w.alloc (.cells cl.toArray 54)).heap.size = w.heap.size + 1 := World.size_alloc _ _
  have HB := Lib.hid (fun (w1 : World) (h : Below (w.heap.size + 1) (w.alloc (.cells cl.toArray 54)) w1) => box_below h)
  generalize hW0 : w.alloc (.cells cl.toArray 54) = W0 at *
  have HW0 := Lib.hid hW0
  have HSZ := Lib.hid hs0
  have hbd : Below (w.heap.size + 1) W0 W0.drew := hb0.drew
  have HAD := Lib.hid (fun (o : Obj) => ((hb0.alloc (by rw [HSZ.out]; exact Nat.le_refl _) o).drew : Below (w.heap.size + 1) W0 (W0.alloc o).drew))
  have HT0 := Lib.hid (fun (w2 w3 : World) (h : Below (w.heap.size + 1) W0 w2) (h3 : Below w2.heap.size w2 w3) => (h.trans (h3.mono (by have := h.size; rw [HSZ.out] at this; exact this)) : Below (w.heap.size + 1) W0 w3))
  have HLT := Lib.hid (fun (w2 : World) (h : Below (w.heap.size + 1) W0 w2) => (show w.heap.size + 1 ≤ w2.heap.size by have := h.size; rw [HSZ.out] at this; exact this))
  clear hW0 hs0
  go_enter Tryz.func20, Tryz.ntmps20
  go_upto_region 1 with fail
  rw [HW0.out]
  go_upto_region 12 with fail
  go_cut [6, 7] (fun v1 v2 wx => ∃ g1 g2 : Nat, v1 = .pointer (some ⟨g1, 0, none⟩) ∧ v2 = .pointer (some ⟨g2, 0, none⟩) ∧ wx.heap[g1]? = some (.cells #[Value.string rg.name, .int .i64 rg.top, .int .i64 rg.height, .int .i64 rg.left, .int .i64 rg.width, .int .u8 rg.align, .bool rg.bottom] 44 (0, 0)) ∧ wx.heap[g2]? = some (.cells #[Value.string nr.name, .int .i64 nr.top, .int .i64 nr.height, .int .i64 nr.left, .int .i64 nr.width, .int .u8 nr.align, .bool nr.bottom] 44 (0, 0)) ∧ Below (w.heap.size + 1) W0 wx)
  case first =>
    go_region_held3 (fun w' => Below (w.heap.size + 1) W0 w') (repeat (first | with_reducible assumption | with_reducible exact hbd | with_reducible exact HAD.out _ | with_reducible refine Below.drew ?_ | with_reducible refine Below.setCell ?_ (by dsimp only; first | omega | (have := HSZ.out; simp; omega)) _ | with_reducible refine Below.alloc ?_ (by first | (rw [HSZ.out]; exact Nat.le_refl _) | (simp [HSZ.out])) _)) (fail)
    all_goals
      go_wp2_with fail
      go_meet
    · exact ⟨_, _, rfl, rfl, alloc_at (heap_alloc_last _ _), alloc_last' _ (by simp), ((hb0.alloc (by rw [HSZ.out]; exact Nat.le_refl _) _).alloc (by simp [HSZ.out]) _).drew⟩
    · exact ⟨_, _, rfl, rfl, alloc_last' _ (by simp), alloc_at (heap_alloc_last _ _), ((hb0.alloc (by rw [HSZ.out]; exact Nat.le_refl _) _).alloc (by simp [HSZ.out]) _).drew⟩
  case rest =>
    obtain ⟨g1, g2, rfl, rfl, hg1, hg2, hcw⟩ := hcut
    have hl1 := (Array.getElem?_eq_some_iff.1 hg1).1
    have hl2 := (Array.getElem?_eq_some_iff.1 hg2).1
    have k1 : ∀ (w' : World), Below wc.heap.size wc w' → ∀ (j : Nat), w'.cell? ⟨g1, j, none⟩ = _ := fun w' h j => cell_of_row _ _ j _ 44 (0, 0) ((h.block g1 hl1).trans hg1)
    have k2 : ∀ (w' : World), Below wc.heap.size wc w' → ∀ (j : Nat), w'.cell? ⟨g2, j, none⟩ = _ := fun w' h j => cell_of_row _ _ j _ 44 (0, 0) ((h.block g2 hl2).trans hg2)
    have HCW := Lib.hid hcw
    have hwc : Below wc.heap.size wc wc := Below.refl _ _
    have HA := Lib.hid (fun (v : Value) (xs : List ByteArray) (nm : ByteArray) (h : Bool) (w1 : World) (hb : Below wc.heap.size wc w1) (hx : w1.ownsRow wc.heap.size 9 1 v xs.length (xs.flatMap strV)) (hn : xs.length ≤ 8) => add_calls wc.heap.size v xs nm h w1 hb.size hx hn)
    have HO0 := Lib.hid (show wc.ownsRow wc.heap.size 9 1 (.slice none 0 0) ([] : List ByteArray).length (([] : List ByteArray).flatMap strV) from World.ownsRow_nil _ _ _ _)
    have HD0 := Lib.hid (show Below wc.heap.size wc wc from hwc)
    clear f0 f15 f16 f17 f18 f19 f20 f21 f22 f23 f24 f25 f26 f27 f28 f3 f4 hb0 hbd hg1 hg2 hl1 hl2 hcw HAD
    have j1 := k1 _ HD0.out
    have j2 := k2 _ HD0.out
    have hq0 : ([] : List ByteArray).length ≤ 0 := Nat.le_refl _
    go_wp2_with (first
      | (go_at_call 63; (with_reducible refine (HA.out _ _ _ _ _ HD2.out HO2.out (Nat.le_trans hq2 (by decide))).mono ?_); rintro e y3 ⟨v3, rfl, ho3, hb3⟩; have HO3 := Lib.hid ho3; have HD3 := Lib.hid (HD2.out.trans hb3); have hq3 := add_len ho3 hq2; have j1 := k1 _ HD3.out; have j2 := k2 _ HD3.out; clear ho3 hb3)
      | (go_at_call 63; (with_reducible refine (HA.out _ _ _ _ _ HD1.out HO1.out (Nat.le_trans hq1 (by decide))).mono ?_); rintro e y2 ⟨v2, rfl, ho2, hb2⟩; have HO2 := Lib.hid ho2; have HD2 := Lib.hid (HD1.out.trans hb2); have hq2 := add_len ho2 hq1; have j1 := k1 _ HD2.out; have j2 := k2 _ HD2.out; clear ho2 hb2)
      | (go_at_call 63; (with_reducible refine (HA.out _ _ _ _ _ HD0.out HO0.out (Nat.le_trans hq0 (by decide))).mono ?_); rintro e y1 ⟨v1, rfl, ho1, hb1⟩; have HO1 := Lib.hid ho1; have HD1 := Lib.hid (HD0.out.trans hb1); have hq1 := add_len ho1 hq0; have j1 := k1 _ HD1.out; have j2 := k2 _ HD1.out; clear ho1 hb1))
    all_goals
      refine HQ.out _ _ _ ?_ wc.heap.size (Nat.le_of_succ_le (HLT.out _ HCW.out)) HO3.out (HB.out _ (HT0.out _ _ HCW.out HD3.out))
      clear HQ k1 k2 j1 j2
      simp_all [namesOf_cons, namesOf_nil, fieldsOf, wPLACE, wALIGN, wANCHOR, bne]
end Go.Proofs.YtnlnmbcaongehaaGreatDoor
namespace Go.Proofs.YtnlnmbcaongehaaGreatDoor
open Go.RowKit
set_option maxRecDepth 100000 in
set_option maxHeartbeats 6400000 in
theorem refFldsEv_calls (c : Chg) (w : World) (hsec : c.sec = 3) (had : c.added = false) (hgn : c.gone = false) (hl : c.lies w) (hfo : ∀ r ∈ c.oe.rows, r.runs.length ≤ 4000000) (hfn : ∀ r ∈ c.ne.rows, r.runs.length ≤ 4000000) (hle : c.oe.rows.length ≤ 4000000) : Calls Tryz.prog 20 #[.agg c.enc.toArray] w (StrsPost (fieldNames c) w) := by
  have hfn0 : fieldNames c = namesOf (fieldsOf c) := by simp [fieldNames, had, hgn]
  have HQ := Lib.hid (fun (v : Value) (w' : World) (xs : List ByteArray) (hx : xs = namesOf (fieldsOf c)) (B : Nat) (hB : w.heap.size ≤ B) (h1 : w'.ownsRow B 9 1 v xs.length (xs.flatMap strV)) (h2 : Below w.heap.size w w') => (show StrsPost (fieldNames c) w (.returned v) w' from ⟨v, rfl, by rw [hfn0, ← hx]; exact ⟨h1.1, h1.2.imp (fun h => h) (fun ⟨g, cap, cur, q1, q2, q3⟩ => ⟨g, cap, cur, q1, Nat.le_trans hB q2, q3⟩)⟩, h2⟩))
  generalize StrsPost (fieldNames c) w = Q at *
  clear hfn0
  have HSR := Lib.hid (fun (w1 : World) (h : Below w.heap.size w w1) => refRows_calls c.oe.at_ c.ne.at_ c.oe.cap c.ne.cap c.oe.rows c.ne.rows w1 (Ev.keeps _ _ _ h hl.1) (Ev.keeps _ _ _ h hl.2) hfo hle)
  clear hl hfo hfn hle
  obtain ⟨sec, id, name, ad, gn, oh, nh, rg, nr, oe, ne, oc, nc⟩ := c
  simp only at hsec had hgn
  subst had hgn
  subst hsec
  generalize hcl : Chg.enc _ = cl
  have hc3 : cl.toArray[3]? = some (.bool false) := by rw [← hcl]; rfl
  have hc4 : cl.toArray[4]? = some (.bool false) := by rw [← hcl]; rfl
  have hc0 : cl.toArray[0]? = some (.int .u8 3) := by rw [← hcl]; rfl
  have hc29 : cl.toArray[29]? = some (.int .i64 oe.id) := by rw [← hcl]; rfl
  have hc30 : cl.toArray[30]? = some (.int .i64 oe.inn) := by rw [← hcl]; rfl
  have hc31 : cl.toArray[31]? = some (.int .i64 oe.out) := by rw [← hcl]; rfl
  have hc32 : cl.toArray[32]? = some (.string oe.region) := by rw [← hcl]; rfl
  have hc33 : cl.toArray[33]? = some (.int .u8 oe.kind) := by rw [← hcl]; rfl
  have hc34 : cl.toArray[34]? = some (.string oe.speaker) := by rw [← hcl]; rfl
  have hc35 : cl.toArray[35]? = some (.slice oe.at_ oe.rows.length oe.cap) := by rw [← hcl]; rfl
  have hc36 : cl.toArray[36]? = some (.int .i64 ne.id) := by rw [← hcl]; rfl
  have hc37 : cl.toArray[37]? = some (.int .i64 ne.inn) := by rw [← hcl]; rfl
  have hc38 : cl.toArray[38]? = some (.int .i64 ne.out) := by rw [← hcl]; rfl
  have hc39 : cl.toArray[39]? = some (.string ne.region) := by rw [← hcl]; rfl
  have hc40 : cl.toArray[40]? = some (.int .u8 ne.kind) := by rw [← hcl]; rfl
  have hc41 : cl.toArray[41]? = some (.string ne.speaker) := by rw [← hcl]; rfl
  have hc42 : cl.toArray[42]? = some (.slice ne.at_ ne.rows.length ne.cap) := by rw [← hcl]; rfl
  have f3 := box_cell w cl.toArray 54 3 _ hc3
  have f4 := box_cell w cl.toArray 54 4 _ hc4
  have f0 := box_cell w cl.toArray 54 0 _ hc0
  have f29 := box_cell w cl.toArray 54 29 _ hc29
  have f30 := box_cell w cl.toArray 54 30 _ hc30
  have f31 := box_cell w cl.toArray 54 31 _ hc31
  have f32 := box_cell w cl.toArray 54 32 _ hc32
  have f33 := box_cell w cl.toArray 54 33 _ hc33
  have f34 := box_cell w cl.toArray 54 34 _ hc34
  have f35 := box_cell w cl.toArray 54 35 _ hc35
  have f36 := box_cell w cl.toArray 54 36 _ hc36
  have f37 := box_cell w cl.toArray 54 37 _ hc37
  have f38 := box_cell w cl.toArray 54 38 _ hc38
  have f39 := box_cell w cl.toArray 54 39 _ hc39
  have f40 := box_cell w cl.toArray 54 40 _ hc40
  have f41 := box_cell w cl.toArray 54 41 _ hc41
  have f42 := box_cell w cl.toArray 54 42 _ hc42
  clear hcl hc3 hc4 hc0 hc29 hc30 hc31 hc32 hc33 hc34 hc35 hc36 hc37 hc38 hc39 hc40 hc41 hc42
  have hb0 : Below (w.heap.size + 1) (w.alloc (.cells cl.toArray 54)) (w.alloc (.cells cl.toArray 54)) := Below.refl _ _
  have hs0 : (w.alloc (.cells cl.toArray 54)).heap.size = w.heap.size + 1 := World.size_alloc _ _
  have HB := Lib.hid (fun (w1 : World) (h : Below (w.heap.size + 1) (w.alloc (.cells cl.toArray 54)) w1) => box_below h)
  generalize hW0 : w.alloc (.cells cl.toArray 54) = W0 at *
  have HW0 := Lib.hid hW0
  have HSZ := Lib.hid hs0
  have hbd : Below (w.heap.size + 1) W0 W0.drew := hb0.drew
  have HAD := Lib.hid (fun (o : Obj) => ((hb0.alloc (by rw [HSZ.out]; exact Nat.le_refl _) o).drew : Below (w.heap.size + 1) W0 (W0.alloc o).drew))
  have HT0 := Lib.hid (fun (w2 w3 : World) (h : Below (w.heap.size + 1) W0 w2) (h3 : Below w2.heap.size w2 w3) => (h.trans (h3.mono (by have := h.size; rw [HSZ.out] at this; exact this)) : Below (w.heap.size + 1) W0 w3))
  have HLT := Lib.hid (fun (w2 : World) (h : Below (w.heap.size + 1) W0 w2) => (show w.heap.size + 1 ≤ w2.heap.size by have := h.size; rw [HSZ.out] at this; exact this))
  clear hW0 hs0
  go_enter Tryz.func20, Tryz.ntmps20
  go_upto_region 1 with fail
  rw [HW0.out]
  go_upto_region 17 with fail
  go_cut [8, 9] (fun v1 v2 wx => ∃ g1 g2 : Nat, v1 = .pointer (some ⟨g1, 0, none⟩) ∧ v2 = .pointer (some ⟨g2, 0, none⟩) ∧ wx.heap[g1]? = some (.cells #[Value.int .i64 oe.id, .int .i64 oe.inn, .int .i64 oe.out, .string oe.region, .int .u8 oe.kind, .string oe.speaker, .slice oe.at_ oe.rows.length oe.cap] 50 (0, 0)) ∧ wx.heap[g2]? = some (.cells #[Value.int .i64 ne.id, .int .i64 ne.inn, .int .i64 ne.out, .string ne.region, .int .u8 ne.kind, .string ne.speaker, .slice ne.at_ ne.rows.length ne.cap] 50 (0, 0)) ∧ Below (w.heap.size + 1) W0 wx)
  case first =>
    go_region_held3 (fun w' => Below (w.heap.size + 1) W0 w') (repeat (first | with_reducible assumption | with_reducible exact hbd | with_reducible exact HAD.out _ | with_reducible refine Below.drew ?_ | with_reducible refine Below.setCell ?_ (by dsimp only; first | omega | (have := HSZ.out; simp; omega)) _ | with_reducible refine Below.alloc ?_ (by first | (rw [HSZ.out]; exact Nat.le_refl _) | (simp [HSZ.out])) _)) (fail)
    all_goals
      go_wp2_with fail
      go_meet
    · exact ⟨_, _, rfl, rfl, alloc_at (heap_alloc_last _ _), alloc_last' _ (by simp), ((hb0.alloc (by rw [HSZ.out]; exact Nat.le_refl _) _).alloc (by simp [HSZ.out]) _).drew⟩
    · exact ⟨_, _, rfl, rfl, alloc_last' _ (by simp), alloc_at (heap_alloc_last _ _), ((hb0.alloc (by rw [HSZ.out]; exact Nat.le_refl _) _).alloc (by simp [HSZ.out]) _).drew⟩
  case rest =>
    obtain ⟨g1, g2, rfl, rfl, hg1, hg2, hcw⟩ := hcut
    have hl1 := (Array.getElem?_eq_some_iff.1 hg1).1
    have hl2 := (Array.getElem?_eq_some_iff.1 hg2).1
    have k1 : ∀ (w' : World), Below wc.heap.size wc w' → ∀ (j : Nat), w'.cell? ⟨g1, j, none⟩ = _ := fun w' h j => cell_of_row _ _ j _ 50 (0, 0) ((h.block g1 hl1).trans hg1)
    have k2 : ∀ (w' : World), Below wc.heap.size wc w' → ∀ (j : Nat), w'.cell? ⟨g2, j, none⟩ = _ := fun w' h j => cell_of_row _ _ j _ 50 (0, 0) ((h.block g2 hl2).trans hg2)
    have HCW := Lib.hid hcw
    have hwc : Below wc.heap.size wc wc := Below.refl _ _
    have HA := Lib.hid (fun (v : Value) (xs : List ByteArray) (nm : ByteArray) (h : Bool) (w1 : World) (hb : Below wc.heap.size wc w1) (hx : w1.ownsRow wc.heap.size 9 1 v xs.length (xs.flatMap strV)) (hn : xs.length ≤ 8) => add_calls wc.heap.size v xs nm h w1 hb.size hx hn)
    have HO0 := Lib.hid (show wc.ownsRow wc.heap.size 9 1 (.slice none 0 0) ([] : List ByteArray).length (([] : List ByteArray).flatMap strV) from World.ownsRow_nil _ _ _ _)
    have HD0 := Lib.hid (show Below wc.heap.size wc wc from hwc)
    have r1 := fun wx => run_spanNe oe.inn oe.out ne.inn ne.out wx
    generalize hRE : rowsEq oe.rows ne.rows = RE at *
    have HRE := Lib.hid hRE
    clear hRE
    clear f0 f29 f30 f31 f32 f33 f34 f35 f36 f37 f38 f39 f40 f41 f42 f3 f4 hb0 hbd hg1 hg2 hl1 hl2 hcw HAD
    have j1 := k1 _ HD0.out
    have j2 := k2 _ HD0.out
    have hq0 : ([] : List ByteArray).length ≤ 0 := Nat.le_refl _
    go_wp2_with (first
      | (go_at_call 64; (with_reducible refine (HSR.out _ (HB.out _ (HT0.out _ _ HCW.out HD4.out))).mono ?_); rintro e y9 ⟨rfl, hb9⟩; have HX := Lib.hid (HD4.out.trans (hb9.mono HD4.out.size)); have HO9 := Lib.hid (owns_below HO4.out hb9); clear hb9)
      | (go_at_call 63; (with_reducible refine (HA.out _ _ _ _ _ HX.out HO9.out (Nat.le_trans hq4 (by decide))).mono ?_); rintro e y5 ⟨v5, rfl, ho5, hb5⟩; have HO5 := Lib.hid ho5; have HD5 := Lib.hid (HX.out.trans hb5); have hq5 := add_len ho5 hq4; have j1 := k1 _ HD5.out; have j2 := k2 _ HD5.out; clear ho5 hb5)
      | (go_at_call 63; (with_reducible refine (HA.out _ _ _ _ _ HD3.out HO3.out (Nat.le_trans hq3 (by decide))).mono ?_); rintro e y4 ⟨v4, rfl, ho4, hb4⟩; have HO4 := Lib.hid ho4; have HD4 := Lib.hid (HD3.out.trans hb4); have hq4 := add_len ho4 hq3; have j1 := k1 _ HD4.out; have j2 := k2 _ HD4.out; clear ho4 hb4)
      | (go_at_call 63; (with_reducible refine (HA.out _ _ _ _ _ HD2.out HO2.out (Nat.le_trans hq2 (by decide))).mono ?_); rintro e y3 ⟨v3, rfl, ho3, hb3⟩; have HO3 := Lib.hid ho3; have HD3 := Lib.hid (HD2.out.trans hb3); have hq3 := add_len ho3 hq2; have j1 := k1 _ HD3.out; have j2 := k2 _ HD3.out; clear ho3 hb3)
      | (go_at_call 63; (with_reducible refine (HA.out _ _ _ _ _ HD1.out HO1.out (Nat.le_trans hq1 (by decide))).mono ?_); rintro e y2 ⟨v2, rfl, ho2, hb2⟩; have HO2 := Lib.hid ho2; have HD2 := Lib.hid (HD1.out.trans hb2); have hq2 := add_len ho2 hq1; have j1 := k1 _ HD2.out; have j2 := k2 _ HD2.out; clear ho2 hb2)
      | (go_at_call 63; (with_reducible refine (HA.out _ _ _ _ _ HD0.out HO0.out (Nat.le_trans hq0 (by decide))).mono ?_); rintro e y1 ⟨v1, rfl, ho1, hb1⟩; have HO1 := Lib.hid ho1; have HD1 := Lib.hid (HD0.out.trans hb1); have hq1 := add_len ho1 hq0; have j1 := k1 _ HD1.out; have j2 := k2 _ HD1.out; clear ho1 hb1))
    all_goals
      refine HQ.out _ _ _ ?_ wc.heap.size (Nat.le_of_succ_le (HLT.out _ HCW.out)) HO5.out (HB.out _ (HT0.out _ _ HCW.out HD5.out))
      clear HQ k1 k2 j1 j2
      simp_all [namesOf_cons, namesOf_nil, fieldsOf, wSPAN, wREGION, wKIND, wSPEAKER, wROWS, bne, HRE.out, Bool.not_and]
end Go.Proofs.YtnlnmbcaongehaaGreatDoor
namespace Go.Proofs.YtnlnmbcaongehaaGreatDoor
open Go.RowKit
theorem fld_lit4 {w w' : World} (fs : List Fld) (cs : Array Value) (hs : cs.toList = fs.flatMap Fld.enc) (hb : Below w.heap.size w w') : SliceOf 2 Fld.enc Flat (w'.alloc (.cells cs 117)) (some ⟨w'.heap.size, 0, none⟩) fs ∧ Below w.heap.size w (w'.alloc (.cells cs 117)) := by
  refine ⟨.inr ⟨w'.heap.size, 0, rfl, by simp, fun i x hx => ⟨fun j v hv => ?_, trivial⟩⟩, hb.alloc hb.size _⟩
  rw [show 0 + i * 2 + j = i * 2 + j by omega, cell_of_row _ _ _ cs 117 (0, 0) (heap_alloc_last w' _)]
  have := flat_at Fld.enc 2 (fun _ => rfl) fs i x j v hx hv
  rw [← hs] at this
  simpa using this
set_option maxRecDepth 100000 in
set_option maxHeartbeats 6400000 in
theorem fldsCm_calls (c : Chg) (w : World) (hsec : c.sec = 4) : Calls Tryz.prog 62 #[.agg c.enc.toArray] w (FldsPost (fieldsOf c) w) := by
  have HQ := Lib.hid (fun (a : Option Addr) (cap n : Nat) (w' : World) (hn : n = (fieldsOf c).length) (h : SliceOf 2 Fld.enc Flat w' a (fieldsOf c) ∧ Below w.heap.size w w') => (show FldsPost (fieldsOf c) w (.returned (.slice a n cap)) w' from ⟨a, cap, by rw [hn], h.1, h.2⟩))
  generalize FldsPost (fieldsOf c) w = Q at *
  obtain ⟨sec, id, name, ad, gn, oh, nh, rg, nr, oe, ne, oc, nc⟩ := c
  simp only at hsec
  subst hsec
  generalize hcl : Chg.enc _ = cl
  have hc0 : cl.toArray[0]? = some (.int .u8 4) := by rw [← hcl]; rfl
  have hc43 : cl.toArray[43]? = some (.int .i64 oc.id) := by rw [← hcl]; rfl
  have hc44 : cl.toArray[44]? = some (.int .i64 oc.ev) := by rw [← hcl]; rfl
  have hc45 : cl.toArray[45]? = some (.int .i64 oc.frm) := by rw [← hcl]; rfl
  have hc46 : cl.toArray[46]? = some (.int .i64 oc.til) := by rw [← hcl]; rfl
  have hc47 : cl.toArray[47]? = some (.string oc.author) := by rw [← hcl]; rfl
  have hc48 : cl.toArray[48]? = some (.string oc.text) := by rw [← hcl]; rfl
  have hc49 : cl.toArray[49]? = some (.bool oc.done) := by rw [← hcl]; rfl
  have hc50 : cl.toArray[50]? = some (.bool oc.lost) := by rw [← hcl]; rfl
  have hc51 : cl.toArray[51]? = some (.int .i64 nc.id) := by rw [← hcl]; rfl
  have hc52 : cl.toArray[52]? = some (.int .i64 nc.ev) := by rw [← hcl]; rfl
  have hc53 : cl.toArray[53]? = some (.int .i64 nc.frm) := by rw [← hcl]; rfl
  have hc54 : cl.toArray[54]? = some (.int .i64 nc.til) := by rw [← hcl]; rfl
  have hc55 : cl.toArray[55]? = some (.string nc.author) := by rw [← hcl]; rfl
  have hc56 : cl.toArray[56]? = some (.string nc.text) := by rw [← hcl]; rfl
  have hc57 : cl.toArray[57]? = some (.bool nc.done) := by rw [← hcl]; rfl
  have hc58 : cl.toArray[58]? = some (.bool nc.lost) := by rw [← hcl]; rfl
  have f0 := box_cell w cl.toArray 54 0 _ hc0
  have f43 := box_cell w cl.toArray 54 43 _ hc43
  have f44 := box_cell w cl.toArray 54 44 _ hc44
  have f45 := box_cell w cl.toArray 54 45 _ hc45
  have f46 := box_cell w cl.toArray 54 46 _ hc46
  have f47 := box_cell w cl.toArray 54 47 _ hc47
  have f48 := box_cell w cl.toArray 54 48 _ hc48
  have f49 := box_cell w cl.toArray 54 49 _ hc49
  have f50 := box_cell w cl.toArray 54 50 _ hc50
  have f51 := box_cell w cl.toArray 54 51 _ hc51
  have f52 := box_cell w cl.toArray 54 52 _ hc52
  have f53 := box_cell w cl.toArray 54 53 _ hc53
  have f54 := box_cell w cl.toArray 54 54 _ hc54
  have f55 := box_cell w cl.toArray 54 55 _ hc55
  have f56 := box_cell w cl.toArray 54 56 _ hc56
  have f57 := box_cell w cl.toArray 54 57 _ hc57
  have f58 := box_cell w cl.toArray 54 58 _ hc58
  clear hcl hc0 hc43 hc44 hc45 hc46 hc47 hc48 hc49 hc50 hc51 hc52 hc53 hc54 hc55 hc56 hc57 hc58
  have hb0 : Below (w.heap.size + 1) (w.alloc (.cells cl.toArray 54)) (w.alloc (.cells cl.toArray 54)) := Below.refl _ _
  have hs0 : (w.alloc (.cells cl.toArray 54)).heap.size = w.heap.size + 1 := World.size_alloc _ _
  have HB := Lib.hid (fun (w1 : World) (h : Below (w.heap.size + 1) (w.alloc (.cells cl.toArray 54)) w1) => box_below h)
  generalize hW0 : w.alloc (.cells cl.toArray 54) = W0 at *
  have HW0 := Lib.hid hW0
  have HSZ := Lib.hid hs0
  have hbd : Below (w.heap.size + 1) W0 W0.drew := hb0.drew
  have HAD := Lib.hid (fun (o : Obj) => ((hb0.alloc (by rw [HSZ.out]; exact Nat.le_refl _) o).drew : Below (w.heap.size + 1) W0 (W0.alloc o).drew))
  have HT0 := Lib.hid (fun (w2 w3 : World) (h : Below (w.heap.size + 1) W0 w2) (h3 : Below w2.heap.size w2 w3) => (h.trans (h3.mono (by have := h.size; rw [HSZ.out] at this; exact this)) : Below (w.heap.size + 1) W0 w3))
  have HLT := Lib.hid (fun (w2 : World) (h : Below (w.heap.size + 1) W0 w2) => (show w.heap.size + 1 ≤ w2.heap.size by have := h.size; rw [HSZ.out] at this; exact this))
  clear hW0 hs0
  go_enter Tryz.func62, Tryz.ntmps62
  go_upto_region 1 with fail
  rw [HW0.out]
  go_upto_region 12 with fail
  go_cut [9, 10] (fun v1 v2 wx => ∃ g1 g2 : Nat, v1 = .pointer (some ⟨g1, 0, none⟩) ∧ v2 = .pointer (some ⟨g2, 0, none⟩) ∧ wx.heap[g1]? = some (.cells #[Value.int .i64 oc.id, .int .i64 oc.ev, .int .i64 oc.frm, .int .i64 oc.til, .string oc.author, .string oc.text, .bool oc.done, .bool oc.lost] 52 (0, 0)) ∧ wx.heap[g2]? = some (.cells #[Value.int .i64 nc.id, .int .i64 nc.ev, .int .i64 nc.frm, .int .i64 nc.til, .string nc.author, .string nc.text, .bool nc.done, .bool nc.lost] 52 (0, 0)) ∧ Below (w.heap.size + 1) W0 wx)
  case first =>
    go_region_held3 (fun w' => Below (w.heap.size + 1) W0 w') (repeat (first | with_reducible assumption | with_reducible exact hbd | with_reducible exact HAD.out _ | with_reducible refine Below.drew ?_ | with_reducible refine Below.setCell ?_ (by dsimp only; first | omega | (have := HSZ.out; simp; omega)) _ | with_reducible refine Below.alloc ?_ (by first | (rw [HSZ.out]; exact Nat.le_refl _) | (simp [HSZ.out])) _)) (fail)
    all_goals
      go_wp2_with fail
      go_meet
    · exact ⟨_, _, rfl, rfl, alloc_at (heap_alloc_last _ _), alloc_last' _ (by simp), ((hb0.alloc (by rw [HSZ.out]; exact Nat.le_refl _) _).alloc (by simp [HSZ.out]) _).drew⟩
    · exact ⟨_, _, rfl, rfl, alloc_last' _ (by simp), alloc_at (heap_alloc_last _ _), ((hb0.alloc (by rw [HSZ.out]; exact Nat.le_refl _) _).alloc (by simp [HSZ.out]) _).drew⟩
  case rest =>
    obtain ⟨g1, g2, rfl, rfl, hg1, hg2, hcw⟩ := hcut
    have hl1 := (Array.getElem?_eq_some_iff.1 hg1).1
    have hl2 := (Array.getElem?_eq_some_iff.1 hg2).1
    have k1 : ∀ (w' : World), Below wc.heap.size wc w' → ∀ (j : Nat), w'.cell? ⟨g1, j, none⟩ = _ := fun w' h j => cell_of_row _ _ j _ 52 (0, 0) ((h.block g1 hl1).trans hg1)
    have k2 : ∀ (w' : World), Below wc.heap.size wc w' → ∀ (j : Nat), w'.cell? ⟨g2, j, none⟩ = _ := fun w' h j => cell_of_row _ _ j _ 52 (0, 0) ((h.block g2 hl2).trans hg2)
    have HCW := Lib.hid hcw
    have hwc : Below wc.heap.size wc wc := Below.refl _ _
    clear f0 f43 f44 f45 f46 f47 f48 f49 f50 f51 f52 f53 f54 f55 f56 f57 f58 hb0 hbd hg1 hg2 hl1 hl2 hcw HAD
    have k1' := k1 wc hwc
    have k2' := k2 wc hwc
    clear k1 k2
    go_wp2_with fail
    all_goals
      clear k1' k2'
      have hbf := HB.out _ HCW.out
      exact HQ.out _ _ _ _ (by simp [fieldsOf]) (fld_lit4 _ _ (by clear HQ; simp_all [fieldsOf, Fld.enc, wANCHOR, wAUTHOR, wTEXT, wDONE, bne]) hbf)
end Go.Proofs.YtnlnmbcaongehaaGreatDoor
namespace Go.Proofs.YtnlnmbcaongehaaGreatDoor
open Go.RowKit
set_option maxRecDepth 100000 in
set_option maxHeartbeats 6400000 in
theorem refFldsCm_calls (c : Chg) (w : World) (hsec : c.sec = 4) (had : c.added = false) (hgn : c.gone = false) : Calls Tryz.prog 20 #[.agg c.enc.toArray] w (StrsPost (fieldNames c) w) := by
  have hfn0 : fieldNames c = namesOf (fieldsOf c) := by simp [fieldNames, had, hgn]
  have HQ := Lib.hid (fun (v : Value) (w' : World) (xs : List ByteArray) (hx : xs = namesOf (fieldsOf c)) (B : Nat) (hB : w.heap.size ≤ B) (h1 : w'.ownsRow B 9 1 v xs.length (xs.flatMap strV)) (h2 : Below w.heap.size w w') => (show StrsPost (fieldNames c) w (.returned v) w' from ⟨v, rfl, by rw [hfn0, ← hx]; exact ⟨h1.1, h1.2.imp (fun h => h) (fun ⟨g, cap, cur, q1, q2, q3⟩ => ⟨g, cap, cur, q1, Nat.le_trans hB q2, q3⟩)⟩, h2⟩))
  generalize StrsPost (fieldNames c) w = Q at *
  clear hfn0
  obtain ⟨sec, id, name, ad, gn, oh, nh, rg, nr, oe, ne, oc, nc⟩ := c
  simp only at hsec had hgn
  subst had hgn
  subst hsec
  generalize hcl : Chg.enc _ = cl
  have hc3 : cl.toArray[3]? = some (.bool false) := by rw [← hcl]; rfl
  have hc4 : cl.toArray[4]? = some (.bool false) := by rw [← hcl]; rfl
  have hc0 : cl.toArray[0]? = some (.int .u8 4) := by rw [← hcl]; rfl
  have hc43 : cl.toArray[43]? = some (.int .i64 oc.id) := by rw [← hcl]; rfl
  have hc44 : cl.toArray[44]? = some (.int .i64 oc.ev) := by rw [← hcl]; rfl
  have hc45 : cl.toArray[45]? = some (.int .i64 oc.frm) := by rw [← hcl]; rfl
  have hc46 : cl.toArray[46]? = some (.int .i64 oc.til) := by rw [← hcl]; rfl
  have hc47 : cl.toArray[47]? = some (.string oc.author) := by rw [← hcl]; rfl
  have hc48 : cl.toArray[48]? = some (.string oc.text) := by rw [← hcl]; rfl
  have hc49 : cl.toArray[49]? = some (.bool oc.done) := by rw [← hcl]; rfl
  have hc50 : cl.toArray[50]? = some (.bool oc.lost) := by rw [← hcl]; rfl
  have hc51 : cl.toArray[51]? = some (.int .i64 nc.id) := by rw [← hcl]; rfl
  have hc52 : cl.toArray[52]? = some (.int .i64 nc.ev) := by rw [← hcl]; rfl
  have hc53 : cl.toArray[53]? = some (.int .i64 nc.frm) := by rw [← hcl]; rfl
  have hc54 : cl.toArray[54]? = some (.int .i64 nc.til) := by rw [← hcl]; rfl
  have hc55 : cl.toArray[55]? = some (.string nc.author) := by rw [← hcl]; rfl
  have hc56 : cl.toArray[56]? = some (.string nc.text) := by rw [← hcl]; rfl
  have hc57 : cl.toArray[57]? = some (.bool nc.done) := by rw [← hcl]; rfl
  have hc58 : cl.toArray[58]? = some (.bool nc.lost) := by rw [← hcl]; rfl
  have f3 := box_cell w cl.toArray 54 3 _ hc3
  have f4 := box_cell w cl.toArray 54 4 _ hc4
  have f0 := box_cell w cl.toArray 54 0 _ hc0
  have f43 := box_cell w cl.toArray 54 43 _ hc43
  have f44 := box_cell w cl.toArray 54 44 _ hc44
  have f45 := box_cell w cl.toArray 54 45 _ hc45
  have f46 := box_cell w cl.toArray 54 46 _ hc46
  have f47 := box_cell w cl.toArray 54 47 _ hc47
  have f48 := box_cell w cl.toArray 54 48 _ hc48
  have f49 := box_cell w cl.toArray 54 49 _ hc49
  have f50 := box_cell w cl.toArray 54 50 _ hc50
  have f51 := box_cell w cl.toArray 54 51 _ hc51
  have f52 := box_cell w cl.toArray 54 52 _ hc52
  have f53 := box_cell w cl.toArray 54 53 _ hc53
  have f54 := box_cell w cl.toArray 54 54 _ hc54
  have f55 := box_cell w cl.toArray 54 55 _ hc55
  have f56 := box_cell w cl.toArray 54 56 _ hc56
  have f57 := box_cell w cl.toArray 54 57 _ hc57
  have f58 := box_cell w cl.toArray 54 58 _ hc58
  clear hcl hc3 hc4 hc0 hc43 hc44 hc45 hc46 hc47 hc48 hc49 hc50 hc51 hc52 hc53 hc54 hc55 hc56 hc57 hc58
  have hb0 : Below (w.heap.size + 1) (w.alloc (.cells cl.toArray 54)) (w.alloc (.cells cl.toArray 54)) := Below.refl _ _
  have hs0 : (w.alloc (.cells cl.toArray 54)).heap.size = w.heap.size + 1 := World.size_alloc _ _
  have HB := Lib.hid (fun (w1 : World) (h : Below (w.heap.size + 1) (w.alloc (.cells cl.toArray 54)) w1) => box_below h)
  generalize hW0 : w.alloc (.cells cl.toArray 54) = W0 at *
  have HW0 := Lib.hid hW0
  have HSZ := Lib.hid hs0
  have hbd : Below (w.heap.size + 1) W0 W0.drew := hb0.drew
  have HAD := Lib.hid (fun (o : Obj) => ((hb0.alloc (by rw [HSZ.out]; exact Nat.le_refl _) o).drew : Below (w.heap.size + 1) W0 (W0.alloc o).drew))
  have HT0 := Lib.hid (fun (w2 w3 : World) (h : Below (w.heap.size + 1) W0 w2) (h3 : Below w2.heap.size w2 w3) => (h.trans (h3.mono (by have := h.size; rw [HSZ.out] at this; exact this)) : Below (w.heap.size + 1) W0 w3))
  have HLT := Lib.hid (fun (w2 : World) (h : Below (w.heap.size + 1) W0 w2) => (show w.heap.size + 1 ≤ w2.heap.size by have := h.size; rw [HSZ.out] at this; exact this))
  clear hW0 hs0
  go_enter Tryz.func20, Tryz.ntmps20
  go_upto_region 1 with fail
  rw [HW0.out]
  go_upto_region 24 with fail
  go_cut [10, 11] (fun v1 v2 wx => ∃ g1 g2 : Nat, v1 = .pointer (some ⟨g1, 0, none⟩) ∧ v2 = .pointer (some ⟨g2, 0, none⟩) ∧ wx.heap[g1]? = some (.cells #[Value.int .i64 oc.id, .int .i64 oc.ev, .int .i64 oc.frm, .int .i64 oc.til, .string oc.author, .string oc.text, .bool oc.done, .bool oc.lost] 52 (0, 0)) ∧ wx.heap[g2]? = some (.cells #[Value.int .i64 nc.id, .int .i64 nc.ev, .int .i64 nc.frm, .int .i64 nc.til, .string nc.author, .string nc.text, .bool nc.done, .bool nc.lost] 52 (0, 0)) ∧ Below (w.heap.size + 1) W0 wx)
  case first =>
    go_region_held3 (fun w' => Below (w.heap.size + 1) W0 w') (repeat (first | with_reducible assumption | with_reducible exact hbd | with_reducible exact HAD.out _ | with_reducible refine Below.drew ?_ | with_reducible refine Below.setCell ?_ (by dsimp only; first | omega | (have := HSZ.out; simp; omega)) _ | with_reducible refine Below.alloc ?_ (by first | (rw [HSZ.out]; exact Nat.le_refl _) | (simp [HSZ.out])) _)) (fail)
    all_goals
      go_wp2_with fail
      go_meet
    · exact ⟨_, _, rfl, rfl, alloc_at (heap_alloc_last _ _), alloc_last' _ (by simp), ((hb0.alloc (by rw [HSZ.out]; exact Nat.le_refl _) _).alloc (by simp [HSZ.out]) _).drew⟩
    · exact ⟨_, _, rfl, rfl, alloc_last' _ (by simp), alloc_at (heap_alloc_last _ _), ((hb0.alloc (by rw [HSZ.out]; exact Nat.le_refl _) _).alloc (by simp [HSZ.out]) _).drew⟩
  case rest =>
    obtain ⟨g1, g2, rfl, rfl, hg1, hg2, hcw⟩ := hcut
    have hl1 := (Array.getElem?_eq_some_iff.1 hg1).1
    have hl2 := (Array.getElem?_eq_some_iff.1 hg2).1
    have k1 : ∀ (w' : World), Below wc.heap.size wc w' → ∀ (j : Nat), w'.cell? ⟨g1, j, none⟩ = _ := fun w' h j => cell_of_row _ _ j _ 52 (0, 0) ((h.block g1 hl1).trans hg1)
    have k2 : ∀ (w' : World), Below wc.heap.size wc w' → ∀ (j : Nat), w'.cell? ⟨g2, j, none⟩ = _ := fun w' h j => cell_of_row _ _ j _ 52 (0, 0) ((h.block g2 hl2).trans hg2)
    have HCW := Lib.hid hcw
    have hwc : Below wc.heap.size wc wc := Below.refl _ _
    have HA := Lib.hid (fun (v : Value) (xs : List ByteArray) (nm : ByteArray) (h : Bool) (w1 : World) (hb : Below wc.heap.size wc w1) (hx : w1.ownsRow wc.heap.size 9 1 v xs.length (xs.flatMap strV)) (hn : xs.length ≤ 8) => add_calls wc.heap.size v xs nm h w1 hb.size hx hn)
    have HO0 := Lib.hid (show wc.ownsRow wc.heap.size 9 1 (.slice none 0 0) ([] : List ByteArray).length (([] : List ByteArray).flatMap strV) from World.ownsRow_nil _ _ _ _)
    have HD0 := Lib.hid (show Below wc.heap.size wc wc from hwc)
    clear f0 f43 f44 f45 f46 f47 f48 f49 f50 f51 f52 f53 f54 f55 f56 f57 f58 f3 f4 hb0 hbd hg1 hg2 hl1 hl2 hcw HAD
    have j1 := k1 _ HD0.out
    have j2 := k2 _ HD0.out
    have hq0 : ([] : List ByteArray).length ≤ 0 := Nat.le_refl _
    go_wp2_with (first
      | (go_at_call 63; (with_reducible refine (HA.out _ _ _ _ _ HD3.out HO3.out (Nat.le_trans hq3 (by decide))).mono ?_); rintro e y4 ⟨v4, rfl, ho4, hb4⟩; have HO4 := Lib.hid ho4; have HD4 := Lib.hid (HD3.out.trans hb4); have hq4 := add_len ho4 hq3; have j1 := k1 _ HD4.out; have j2 := k2 _ HD4.out; clear ho4 hb4)
      | (go_at_call 63; (with_reducible refine (HA.out _ _ _ _ _ HD2.out HO2.out (Nat.le_trans hq2 (by decide))).mono ?_); rintro e y3 ⟨v3, rfl, ho3, hb3⟩; have HO3 := Lib.hid ho3; have HD3 := Lib.hid (HD2.out.trans hb3); have hq3 := add_len ho3 hq2; have j1 := k1 _ HD3.out; have j2 := k2 _ HD3.out; clear ho3 hb3)
      | (go_at_call 63; (with_reducible refine (HA.out _ _ _ _ _ HD1.out HO1.out (Nat.le_trans hq1 (by decide))).mono ?_); rintro e y2 ⟨v2, rfl, ho2, hb2⟩; have HO2 := Lib.hid ho2; have HD2 := Lib.hid (HD1.out.trans hb2); have hq2 := add_len ho2 hq1; have j1 := k1 _ HD2.out; have j2 := k2 _ HD2.out; clear ho2 hb2)
      | (go_at_call 63; (with_reducible refine (HA.out _ _ _ _ _ HD0.out HO0.out (Nat.le_trans hq0 (by decide))).mono ?_); rintro e y1 ⟨v1, rfl, ho1, hb1⟩; have HO1 := Lib.hid ho1; have HD1 := Lib.hid (HD0.out.trans hb1); have hq1 := add_len ho1 hq0; have j1 := k1 _ HD1.out; have j2 := k2 _ HD1.out; clear ho1 hb1))
    all_goals
      refine HQ.out _ _ _ ?_ wc.heap.size (Nat.le_of_succ_le (HLT.out _ HCW.out)) HO4.out (HB.out _ (HT0.out _ _ HCW.out HD4.out))
      clear HQ k1 k2 j1 j2
      simp_all [namesOf_cons, namesOf_nil, fieldsOf, wANCHOR, wAUTHOR, wTEXT, wDONE, bne]
end Go.Proofs.YtnlnmbcaongehaaGreatDoor
