/- The contract of diff.apply, section by section. (printed by gen_apply.py) -/
import Derived.Deep.MidRow
import Derived.Test.YtnlnmbcaongehaaGreatDoorBase12
import Derived.Test.YtnlnmbcaongehaaGreatDoorBase15
set_option linter.unusedVariables false
set_option linter.unusedSimpArgs false
namespace Go.Proofs.YtnlnmbcaongehaaGreatDoor
open Go.RowKit
attribute [local go_sem ↓] Go.wp_at_zero Go.wp_at_succ
/-- The error, and the document behind the pointer, of the contents c'; only its block and new ones were written. -/
def ApplyPost (err : Int) (c' : DocC) (d : Doc) (g : Nat) (w : World) (e : Ending) (w' : World) : Prop :=
  e = .returned (.int .i64 err) ∧ ∃ d' : Doc, w'.heap[g]? = some (.cells d'.enc.toArray 27 (0, 0)) ∧ d'.c = c' ∧ d'.lies w' ∧ (∀ b, d'.uses b → b ≠ g ∧ (d.uses b ∨ w.heap.size ≤ b)) ∧ w.grownBy w' (some g)
/-- All blocks but one are as they were. -/
def Aside (w5 : World) (g : Nat) (w' : World) : Prop := ∀ b, b < w5.heap.size → b ≠ g → w'.heap[b]? = w5.heap[b]?
theorem size54 : (Tryz.prog.info? 54).map (·.size) = some 59 := by kernel_rfl
theorem new_kept {w w3 : World} {cs : Array Value} {t : TypeId} (h : Below (w.alloc (.cells cs t)).drew.heap.size (w.alloc (.cells cs t)).drew w3) : w3.heap[w.heap.size]? = some (.cells cs t (0, 0)) := (h.block w.heap.size (by show w.heap.size < (w.alloc (.cells cs t)).heap.size; simp)).trans (heap_alloc_last w _)
/-- A document's block, and blocks apart from it. -/
structure DocAt (d : Doc) (g : Nat) (w : World) : Prop where
  cells : w.heap[g]? = some (.cells d.enc.toArray 27 (0, 0))
  lies : d.lies w
  apart : ∀ b, d.uses b → b ≠ g
theorem DocAt.below {d : Doc} {g : Nat} {w w' : World} (h : DocAt d g w) (hb : Below w.heap.size w w') : DocAt d g w' :=
  ⟨(hb.block g (Array.getElem?_eq_some_iff.1 h.cells).1).trans h.cells, Doc.later h.lies hb, h.apart⟩
theorem DocAt.same {d : Doc} {g : Nat} {w w' : World} (h : DocAt d g w) (hb : Below w.heap.size w w') (err : Int) : ApplyPost err d.c d g w (.returned (.int .i64 err)) w' := by
  have h' := h.below hb
  exact ⟨rfl, d, h'.cells, rfl, h'.lies, fun b hu => ⟨h'.apart b hu, .inl hu⟩, ⟨hb.os, hb.tape, hb.output, hb.size, fun k hk _ => hb.block k hk⟩⟩
/-- The new regions: the change's own name in the new value. -/
def newReg (c : Chg) : Reg := ⟨c.name, c.nr.top, c.nr.height, c.nr.left, c.nr.width, c.nr.align, c.nr.bottom⟩
def apRegErr (regs : List Reg) (c : Chg) : Int := allowedErr c.added (first (fun x : Reg => x.name.toList == c.name.toList) regs).isSome (regEq (((first (fun x : Reg => x.name.toList == c.name.toList) regs).map (·.1)).getD zeroReg) c.rg)
def apRegIdx (regs : List Reg) (c : Chg) : Nat := ((first (fun x : Reg => x.name.toList == c.name.toList) regs).map (·.2)).getD 0
def applyReg (d : Doc) (c : Chg) : DocC := ⟨d.hd, if apRegErr d.regs c = 0 then changedL c.added c.gone (apRegIdx d.regs c) (fun y : Reg => Op.bytesLess y.name.toList (newReg c).name.toList) d.regs (newReg c) else d.regs, d.evs.map Ev.c, d.cms⟩
theorem regs_fin {d : Doc} {g : Nat} {w w1 w2 : World} {ys : List Reg} {a : Option Addr} {c' : Nat} (hd : DocAt d g w) (hb : Below w.heap.size w w1) (hS : SliceOf 7 Reg.enc Flat w1 a ys) (hf : ∀ ad, a = some ad → w.heap.size ≤ ad.block) (hw : w2 = w1.setCell ⟨g, 5, none⟩ (.slice a ys.length c')) :
    ApplyPost 0 ⟨d.hd, ys, d.evs.map Ev.c, d.cms⟩ d g w (.returned (.int .i64 0)) w2 := by
  subst hw
  have hgw : g < w.heap.size := (Array.getElem?_eq_some_iff.1 hd.cells).1
  have h1 := hd.below hb
  have hsz : (w1.setCell ⟨g, 5, none⟩ (.slice a ys.length c')).heap.size = w1.heap.size := by simp
  have hfr : ∀ b, b ≠ g → (w1.setCell ⟨g, 5, none⟩ (.slice a ys.length c')).heap[b]? = w1.heap[b]? := fun b h => Below.heap_setCell _ _ _ _ h
  refine ⟨rfl, ⟨d.title, d.lang, d.rate, d.drop, d.last, a, c', ys, d.ea, d.ec, d.evs, d.ca, d.cc, d.cms⟩, heap_setCell_same _ _ _ _ _ _ h1.cells, rfl, ⟨?_, ?_, ?_⟩, fun b hu => ?_, ⟨hb.os, hb.tape, hb.output, by rw [hsz]; exact hb.size, fun k hk hne => ?_⟩⟩
  · refine SliceOf.frame hS (by omega) (fun b hu => hfr b ?_) (fun _ _ _ => trivial)
    obtain ⟨_, ad, e, rfl⟩ := hu
    have := hf ad e
    omega
  · exact EvsAt.frame h1.lies.2.1 (by omega) fun b hu => hfr b (hd.apart b (.inr (.inl hu)))
  · exact SliceOf.frame h1.lies.2.2 (by omega) (fun b hu => hfr b (hd.apart b (.inr (.inr hu)))) (fun _ _ _ => trivial)
  · rcases hu with ⟨_, ad, e, rfl⟩ | hu | hu
    · have := hf ad e
      exact ⟨by omega, .inr this⟩
    · exact ⟨hd.apart b (.inr (.inl hu)), .inl (.inr (.inl hu))⟩
    · exact ⟨hd.apart b (.inr (.inr hu)), .inl (.inr (.inr hu))⟩
  · rw [hfr k (fun e => hne (by rw [e])), hb.block k hk]
theorem find36_full (r : Option (Reg × Nat)) : ∃ (x : Reg) (i : Int) (b : Bool), findVal36 r = .tuple #[.agg x.enc.toArray, .int .i64 i, .bool b] ∧ x = (r.map (·.1)).getD zeroReg ∧ b = r.isSome ∧ (b = true → i = ((((r.map (·.2)).getD 0 : Nat)) : Int)) := by
  cases r with
  | none => exact ⟨_, _, _, rfl, rfl, rfl, fun h => by cases h⟩
  | some q => exact ⟨_, _, _, rfl, rfl, rfl, fun _ => rfl⟩
set_option maxRecDepth 100000 in
set_option maxHeartbeats 6400000 in
theorem applyReg_calls (d : Doc) (g : Nat) (c : Chg) (w : World) (hsec : c.sec = 2) (hag : c.added = true → c.gone = false) (hd : DocAt d g w) (hl : d.regs.length ≤ 4000000) :
    Calls Tryz.prog 55 #[.pointer (some ⟨g, 0, none⟩), .agg c.enc.toArray] w (ApplyPost (apRegErr d.regs c) (applyReg d c) d g w) := by
  have HERR := Lib.hid (fun (w' : World) (hb : Below w.heap.size w w') (h0 : ¬ apRegErr d.regs c = 0) => (show ApplyPost (apRegErr d.regs c) (applyReg d c) d g w (.returned (.int .i64 (apRegErr d.regs c))) w' from by
    have := hd.same hb (apRegErr d.regs c)
    unfold applyReg
    rw [if_neg h0]
    exact this))
  obtain ⟨x, i, there, hv, hx, ht, hi⟩ := find36_full (first (fun x : Reg => x.name.toList == c.name.toList) d.regs)
  have HF := Lib.hid (fun (w1 : World) (h : Below w.heap.size w w1) => (show Calls Tryz.prog 36 #[.slice d.ra d.regs.length d.rc, .func (.func 35) #[] #[], .string c.name] w1 (fun e w' => e = .returned (.tuple #[.agg x.enc.toArray, .int .i64 i, .bool there]) ∧ Below w1.heap.size w1 w') from (find36_calls Flat.keeps d.ra d.rc d.regs c.name w1 (hd.lies.1.later h) (by omega)).mono (fun e w' p => ⟨by rw [← hv]; exact p.1, p.2⟩)))
  have hE : apRegErr d.regs c = allowedErr c.added there (regEq x c.rg) := by rw [hx, ht]; rfl
  have HAL := Lib.hid (fun (s : Bool) (w1 : World) => allowed_calls c there s w1)
  have r1 := fun wx => run_regEq x c.rg wx
  generalize hRE : regEq x c.rg = RE at *
  generalize hERR : apRegErr d.regs c = ERR at *
  generalize hPOST : ApplyPost ERR (applyReg d c) d g w = Q at *
  have HSL := Lib.hid (fun (w1 : World) (h : Below w.heap.size w w1) => hd.lies.1.later h)
  have hgw : g < w.heap.size := (Array.getElem?_eq_some_iff.1 hd.cells).1
  have HGC := Lib.hid (fun (w1 : World) (h : Below w.heap.size w w1) => (h.block g hgw).trans hd.cells)
  have HCHG := Lib.hid (fun (w1 : World) (h : Below w.heap.size w w1) (h0 : ERR = 0) => changedReg_calls d.ra d.rc d.regs c (apRegIdx d.regs c) i (newReg c) w1 (hd.lies.1.later h) (fun ha => by
    rw [h0] at hE
    have hth : there = true := by
      cases there
      · rw [ha] at hE
        simp [allowedErr] at hE
      · rfl
    refine ⟨?_, hi hth⟩
    rw [hth] at ht
    unfold apRegIdx
    cases hf : first (fun x : Reg => x.name.toList == c.name.toList) d.regs with
    | none => rw [hf] at ht; cases ht
    | some q =>
      obtain ⟨y, k⟩ := q
      obtain ⟨_, hk, _⟩ := firstFrom_get _ _ 0 y k hf
      simpa using (List.getElem?_eq_some_iff.1 hk).1) hag hl)
  have HFIN := Lib.hid (fun (w1 w2 : World) (a : Option Addr) (c' : Nat) (h0 : ERR = 0) (hb : Below w.heap.size w w1) (hS : SliceOf 7 Reg.enc Flat w1 a (changedL c.added c.gone (apRegIdx d.regs c) (fun y : Reg => Op.bytesLess y.name.toList (newReg c).name.toList) d.regs (newReg c))) (hf : ∀ ad, a = some ad → w.heap.size ≤ ad.block) (hw : w2 = w1.setCell ⟨g, 5, none⟩ (.slice a (changedL c.added c.gone (apRegIdx d.regs c) (fun y : Reg => Op.bytesLess y.name.toList (newReg c).name.toList) d.regs (newReg c)).length c')) => (show Q (.returned (.int .i64 0)) w2 from by
    have := regs_fin hd hb hS hf hw
    rw [← hPOST, h0]
    unfold applyReg
    rw [if_pos (hERR.trans h0)]
    exact this))
  generalize changedL c.added c.gone (apRegIdx d.regs c) (fun y : Reg => Op.bytesLess y.name.toList (newReg c).name.toList) d.regs (newReg c) = YS at *
  have HEQ := Lib.hid hE
  clear hd hv hx ht hi hPOST hRE hERR hE
  obtain ⟨sec, id, name, ad, gn, oh, nh, rg, nr, oe, ne, oc, nc⟩ := c
  simp only at hsec hag
  subst hsec
  obtain ⟨title, lang, rate, drop, last, ra, rc, regs, ea, ec, evs, ca, cc, cms⟩ := d
  obtain ⟨xnm, xtop, xheight, xleft, xwidth, xalign, xbottom⟩ := x
  generalize hcl : Chg.enc _ = cl at *
  have hsz59 : cl.toArray.toList.length = 59 := by rw [← hcl]; rfl
  have hc0 : cl.toArray[0]? = some (.int .u8 2) := by rw [← hcl]; rfl
  have hc2 : cl.toArray[2]? = some (.string name) := by rw [← hcl]; rfl
  have hc3 : cl.toArray[3]? = some (.bool ad) := by rw [← hcl]; rfl
  have hc4 : cl.toArray[4]? = some (.bool gn) := by rw [← hcl]; rfl
  have hc15 : cl.toArray[15]? = some (.string rg.name) := by rw [← hcl]; rfl
  have hc16 : cl.toArray[16]? = some (.int .i64 rg.top) := by rw [← hcl]; rfl
  have hc17 : cl.toArray[17]? = some (.int .i64 rg.height) := by rw [← hcl]; rfl
  have hc18 : cl.toArray[18]? = some (.int .i64 rg.left) := by rw [← hcl]; rfl
  have hc19 : cl.toArray[19]? = some (.int .i64 rg.width) := by rw [← hcl]; rfl
  have hc20 : cl.toArray[20]? = some (.int .u8 rg.align) := by rw [← hcl]; rfl
  have hc21 : cl.toArray[21]? = some (.bool rg.bottom) := by rw [← hcl]; rfl
  have hc22 : cl.toArray[22]? = some (.string nr.name) := by rw [← hcl]; rfl
  have hc23 : cl.toArray[23]? = some (.int .i64 nr.top) := by rw [← hcl]; rfl
  have hc24 : cl.toArray[24]? = some (.int .i64 nr.height) := by rw [← hcl]; rfl
  have hc25 : cl.toArray[25]? = some (.int .i64 nr.left) := by rw [← hcl]; rfl
  have hc26 : cl.toArray[26]? = some (.int .i64 nr.width) := by rw [← hcl]; rfl
  have hc27 : cl.toArray[27]? = some (.int .u8 nr.align) := by rw [← hcl]; rfl
  have hc28 : cl.toArray[28]? = some (.bool nr.bottom) := by rw [← hcl]; rfl
  clear hcl
  obtain ⟨nm3, top3, height3, left3, width3, align3, bottom3⟩ := rg
  obtain ⟨nm4, top4, height4, left4, width4, align4, bottom4⟩ := nr
  obtain ⟨cs, hcs⟩ : ∃ cs, cs = cl.toArray := ⟨_, rfl⟩
  rw [← hcs] at hc0 hc2 hc3 hc4 hc15 hc16 hc17 hc18 hc19 hc20 hc21 hc22 hc23 hc24 hc25 hc26 hc27 hc28 hsz59
  simp only [← hcs, newReg, Doc.enc, Reg.enc] at *
  clear hcs
  have f0 := box_cell w cs 54 0 _ hc0
  have f2 := box_cell w cs 54 2 _ hc2
  have f3 := box_cell w cs 54 3 _ hc3
  have f4 := box_cell w cs 54 4 _ hc4
  have f15 := box_cell w cs 54 15 _ hc15
  have f16 := box_cell w cs 54 16 _ hc16
  have f17 := box_cell w cs 54 17 _ hc17
  have f18 := box_cell w cs 54 18 _ hc18
  have f19 := box_cell w cs 54 19 _ hc19
  have f20 := box_cell w cs 54 20 _ hc20
  have f21 := box_cell w cs 54 21 _ hc21
  have f22 := box_cell w cs 54 22 _ hc22
  have f23 := box_cell w cs 54 23 _ hc23
  have f24 := box_cell w cs 54 24 _ hc24
  have f25 := box_cell w cs 54 25 _ hc25
  have f26 := box_cell w cs 54 26 _ hc26
  have f27 := box_cell w cs 54 27 _ hc27
  have f28 := box_cell w cs 54 28 _ hc28
  have hb0 : Below (w.heap.size + 1) (w.alloc (.cells cs 54)) (w.alloc (.cells cs 54)) := Below.refl _ _
  have hsz : (w.alloc (.cells cs 54)).heap.size = w.heap.size + 1 := World.size_alloc _ _
  have HB := Lib.hid (fun (w1 : World) (h : Below (w.heap.size + 1) (w.alloc (.cells cs 54)) w1) => box_below h)
  have HRG := Lib.hid (fun (w1 : World) (h : Below (w.heap.size + 1) (w.alloc (.cells cs 54)) w1) => (show w1.rangeAt w.heap.size 0 cs.toList from fun j v hv => by
    rw [Nat.zero_add, cell_of_row _ _ j cs 54 (0, 0) ((h.block _ (by omega)).trans (heap_alloc_last w _))]
    simpa using hv))
  generalize hW0 : w.alloc (.cells cs 54) = W0 at *
  have HW0 := Lib.hid hW0
  have HSZ := Lib.hid hsz
  have HT0 := Lib.hid (fun (w2 w3 : World) (h : Below (w.heap.size + 1) W0 w2) (h3 : Below w2.heap.size w2 w3) => (h.trans (h3.mono (by have := h.size; rw [HSZ.out] at this; exact this)) : Below (w.heap.size + 1) W0 w3))
  have HLT := Lib.hid (fun (w2 : World) (h : Below (w.heap.size + 1) W0 w2) => (show w.heap.size + 1 ≤ w2.heap.size by have := h.size; rw [HSZ.out] at this; exact this))
  have bg : ∀ (w' : World), Below (w.heap.size + 1) W0 w' → ∀ (j : Nat), w'.cell? ⟨g, j, none⟩ = _ := fun w' h j => cell_of_row _ _ j _ 27 (0, 0) (HGC.out w' (HB.out _ h))
  have zg : ∀ (w' : World), Below (w.heap.size + 1) W0 w' → ∀ (j : Nat), w'.frozen? ⟨g, j, none⟩ = false := fun w' h j => by simp [World.frozen?, HGC.out w' (HB.out _ h)]
  have hbd : Below (w.heap.size + 1) W0 W0.drew := hb0.drew
  have HAD := Lib.hid (fun (o : Obj) => ((hb0.alloc (by rw [HSZ.out]; exact Nat.le_refl _) o).drew : Below (w.heap.size + 1) W0 (W0.alloc o).drew))
  have H59 := Lib.hid hsz59
  clear hW0 hsz hsz59 hc0 hc2 hc3 hc4 hc15 hc16 hc17 hc18 hc19 hc20 hc21 hc22 hc23 hc24 hc25 hc26 hc27 hc28
  have HAG := Lib.hid hag
  clear hag
  cases ad
  case' true => obtain rfl : gn = false := HAG.out rfl
  all_goals
    go_enter Tryz.func55, Tryz.ntmps55
    go_upto_region 1 with fail
    rw [HW0.out]
    go_upto_region 19 with fail
    go_cut [6, 7, 8] (fun s6 s7 s8 wx => ∃ gx, s6 = .pointer (some ⟨gx, 0, none⟩) ∧ s7 = .int .i64 i ∧ s8 = .bool there ∧ wx.heap[gx]? = some (.cells #[.string xnm, .int .i64 xtop, .int .i64 xheight, .int .i64 xleft, .int .i64 xwidth, .int .u8 xalign, .bool xbottom] 44 (0, 0)) ∧ w.heap.size + 1 ≤ gx ∧ Below (w.heap.size + 1) W0 wx)
    case first =>
      have HF1 := Lib.hid (fun (w1 : World) (h : Below (w.heap.size + 1) W0 w1) => (HF.out w1 (HB.out _ h)).mono (fun e w' p => (show e = _ ∧ Below (w.heap.size + 1) W0 w' ∧ Below w1.heap.size w1 w' from ⟨p.1, HT0.out _ _ h p.2, p.2⟩)))
      go_region_held3 (fun w' => Below (w.heap.size + 1) W0 w') (repeat (first | with_reducible assumption | with_reducible exact hbd | with_reducible exact HAD.out _ | with_reducible refine Below.setCell ?_ (by dsimp only; first | omega | (have := HSZ.out; simp; omega) | (have := HLT.out _ hc3; simp; omega)) _ | with_reducible refine Below.alloc ?_ (by first | exact HLT.out _ hc3 | (rw [HSZ.out]; exact Nat.le_refl _)) _)) (first
        | (go_at_call 36; (with_reducible refine (HF1.out _ ?_).mono ?_); (first | with_reducible assumption | with_reducible exact HAD.out _); rintro e w3 ⟨rfl, hc3, hr3⟩; (first | (with_reducible have hb3 := new_kept hr3; have HB3 := Lib.hid hb3; clear hb3) | skip); (first | (have bx3 : ∀ (j : Nat), w3.cell? ⟨W0.heap.size, j, none⟩ = _ := fun j => cell_of_row _ _ j _ 44 (0, 0) HB3.out; have zx3 : ∀ (j : Nat), w3.frozen? ⟨W0.heap.size, j, none⟩ = false := fun j => by simp [World.frozen?, HB3.out]) | skip); clear hr3))
      · go_wp2_with fail
        go_meet
        exact ⟨_, rfl, rfl, rfl, heap_alloc_last w3 _, HLT.out _ hc3, Below.alloc hc3 (HLT.out _ hc3) _⟩
      · go_wp2_with fail
        go_meet
        refine ⟨_, rfl, rfl, rfl, heap_setCell_same _ _ _ _ _ _ (heap_setCell_same _ _ _ _ _ _ (heap_setCell_same _ _ _ _ _ _ (heap_setCell_same _ _ _ _ _ _ (heap_setCell_same _ _ _ _ _ _ (heap_setCell_same _ _ _ _ _ _ (heap_setCell_same _ _ _ _ _ _ HB3.out)))))), by rw [HSZ.out]; exact Nat.le_refl _, ?_⟩
        repeat refine Below.setCell ?_ (by rw [HSZ.out]; exact Nat.le_refl _) _
        exact hc3
    case rest =>
      obtain ⟨gx, rfl, rfl, rfl, hgx, hgb, hcw⟩ := hcut
      have hlx := (Array.getElem?_eq_some_iff.1 hgx).1
      have cx : ∀ (w' : World), Below wc.heap.size wc w' → ∀ (j : Nat), w'.cell? ⟨gx, j, none⟩ = _ := fun w' h j => cell_of_row _ _ j _ 44 (0, 0) ((h.block gx hlx).trans hgx)
      have k0 := fun (w' : World) (h : Below wc.heap.size wc w') => f0 w' (HT0.out _ _ hcw h)
      have k2 := fun (w' : World) (h : Below wc.heap.size wc w') => f2 w' (HT0.out _ _ hcw h)
      have k3 := fun (w' : World) (h : Below wc.heap.size wc w') => f3 w' (HT0.out _ _ hcw h)
      have k4 := fun (w' : World) (h : Below wc.heap.size wc w') => f4 w' (HT0.out _ _ hcw h)
      have k15 := fun (w' : World) (h : Below wc.heap.size wc w') => f15 w' (HT0.out _ _ hcw h)
      have k16 := fun (w' : World) (h : Below wc.heap.size wc w') => f16 w' (HT0.out _ _ hcw h)
      have k17 := fun (w' : World) (h : Below wc.heap.size wc w') => f17 w' (HT0.out _ _ hcw h)
      have k18 := fun (w' : World) (h : Below wc.heap.size wc w') => f18 w' (HT0.out _ _ hcw h)
      have k19 := fun (w' : World) (h : Below wc.heap.size wc w') => f19 w' (HT0.out _ _ hcw h)
      have k20 := fun (w' : World) (h : Below wc.heap.size wc w') => f20 w' (HT0.out _ _ hcw h)
      have k21 := fun (w' : World) (h : Below wc.heap.size wc w') => f21 w' (HT0.out _ _ hcw h)
      have k22 := fun (w' : World) (h : Below wc.heap.size wc w') => f22 w' (HT0.out _ _ hcw h)
      have k23 := fun (w' : World) (h : Below wc.heap.size wc w') => f23 w' (HT0.out _ _ hcw h)
      have k24 := fun (w' : World) (h : Below wc.heap.size wc w') => f24 w' (HT0.out _ _ hcw h)
      have k25 := fun (w' : World) (h : Below wc.heap.size wc w') => f25 w' (HT0.out _ _ hcw h)
      have k26 := fun (w' : World) (h : Below wc.heap.size wc w') => f26 w' (HT0.out _ _ hcw h)
      have k27 := fun (w' : World) (h : Below wc.heap.size wc w') => f27 w' (HT0.out _ _ hcw h)
      have k28 := fun (w' : World) (h : Below wc.heap.size wc w') => f28 w' (HT0.out _ _ hcw h)
      have HAE := Lib.hid (fun (w1 : World) => HAL.out RE w1)
      rw [← HEQ.out] at HAE
      have hwd : Below wc.heap.size wc wc.drew := (Below.refl _ _).drew
      have BG := Lib.hid bg
      have ZG := Lib.hid zg
      have HCW := Lib.hid hcw
      clear hgx bg zg hb0 hbd HAD HF HAL f0 f2 f3 f4 f15 f16 f17 f18 f19 f20 f21 f22 f23 f24 f25 f26 f27 f28
      go_upto_region 20 with fail
      refine wp_region_held_drew (S := fun w' => Below wc.heap.size wc w') (by kernel_rfl) hwd (fun hHeld => ?_)
      refine wpAnyH_take (i := 0) (v := .agg cs.toList.toArray) rfl (by kernel_rfl) (by kernel_rfl) (by kernel_rfl) (fun _ _ _ h => h) (yieldsIf_load_mid (by rfl) 54 (.tmp 3) rfl w.heap.size 0 rfl cs.toList _ (fun w h => HRG.out w (HT0.out _ _ HCW.out h)) Tryz.underlying54 rfl (by rw [size54, H59.out])) (by assumption) ?_
      try simp only [Act.put, List.getElem_toArray, List.getElem_cons_zero, List.getElem_cons_succ, List.setIfInBounds_toArray, List.set_cons_zero, List.set_cons_succ, Array.toArray_toList]
      refine wpAnyH_take (i := 1) (v := .bool there) rfl (by kernel_rfl) (by kernel_rfl) (by kernel_rfl) (fun _ _ _ h => h) (.inl ⟨by rfl, fun w h => by have h2 : Below wc.heap.size wc w := h; go_simp⟩) (by assumption) ?_
      try simp only [Act.put, List.getElem_toArray, List.getElem_cons_zero, List.getElem_cons_succ, List.setIfInBounds_toArray, List.set_cons_zero, List.set_cons_succ, Array.toArray_toList]
      refine wpAnyH_take (i := 2) (v := .agg #[.string xnm, .int .i64 xtop, .int .i64 xheight, .int .i64 xleft, .int .i64 xwidth, .int .u8 xalign, .bool xbottom]) rfl (by kernel_rfl) (by kernel_rfl) (by kernel_rfl) (fun _ _ _ h => h) (.inl ⟨by rfl, fun w h => by have h2 : Below wc.heap.size wc w := h; go_simp⟩) (by assumption) ?_
      try simp only [Act.put, List.getElem_toArray, List.getElem_cons_zero, List.getElem_cons_succ, List.setIfInBounds_toArray, List.set_cons_zero, List.set_cons_succ, Array.toArray_toList]
      refine wpAnyH_take (i := 3) (v := .pointer (some ⟨w.heap.size, 15, none⟩)) rfl (by kernel_rfl) (by kernel_rfl) (by kernel_rfl) (fun _ _ _ h => h) (.inl ⟨by rfl, fun w h => by have h2 : Below wc.heap.size wc w := h; go_simp⟩) (by assumption) ?_
      try simp only [Act.put, List.getElem_toArray, List.getElem_cons_zero, List.getElem_cons_succ, List.setIfInBounds_toArray, List.set_cons_zero, List.set_cons_succ, Array.toArray_toList]
      refine wpAnyH_take (i := 4) (v := .agg #[.string nm3, .int .i64 top3, .int .i64 height3, .int .i64 left3, .int .i64 width3, .int .u8 align3, .bool bottom3]) rfl (by kernel_rfl) (by kernel_rfl) (by kernel_rfl) (fun _ _ _ h => h) (.inl ⟨by rfl, fun w h => by have h2 : Below wc.heap.size wc w := h; go_simp⟩) (by assumption) ?_
      try simp only [Act.put, List.getElem_toArray, List.getElem_cons_zero, List.getElem_cons_succ, List.setIfInBounds_toArray, List.set_cons_zero, List.set_cons_succ, Array.toArray_toList]
      refine wpAnyH_take (i := 5) (v := .bool RE) rfl (by kernel_rfl) (by kernel_rfl) (by kernel_rfl) (fun _ _ _ h => h) (.inl ⟨by rfl, fun w h => by have h2 : Below wc.heap.size wc w := h; go_simp⟩) (by assumption) ?_
      try simp only [Act.put, List.getElem_toArray, List.getElem_cons_zero, List.getElem_cons_succ, List.setIfInBounds_toArray, List.set_cons_zero, List.set_cons_succ, Array.toArray_toList]
      refine wpAnyH_ready (rs := [6]) (by kernel_rfl) (by simp) ?_
      refine AllReadyH.cons rfl (fun K hK => ?_) AllReadyH.nil
      go_simp
      refine (HAE.out _).mono ?_
      rintro e w4 ⟨rfl, hb4⟩
      have hw4 : Below wc.heap.size wc w4 := hwd.trans (hb4.mono hwd.size)
      clear hb4
      go_wp2_with fail
      refine hK.out _ _ hw4 (fun hHeld2 => ?_)
      clear hK
      try simp only [Act.put, List.getElem_toArray, List.getElem_cons_zero, List.getElem_cons_succ, List.setIfInBounds_toArray, List.set_cons_zero, List.set_cons_succ, Array.toArray_toList]
      refine wpAnyH_take (i := 7) (v := .int .i64 ERR) rfl (by kernel_rfl) (by kernel_rfl) (by kernel_rfl) (fun _ _ _ h => h) (.inl ⟨by rfl, fun w h => by have h2 : Below wc.heap.size wc w := h; go_simp⟩) (by assumption) ?_
      try simp only [Act.put, List.getElem_toArray, List.getElem_cons_zero, List.getElem_cons_succ, List.setIfInBounds_toArray, List.set_cons_zero, List.set_cons_succ, Array.toArray_toList]
      refine wpAnyH_done (by kernel_rfl) ?_ _
      by_cases h0 : ERR = 0
      · subst h0
        have hal4 : ∀ o, Below wc.heap.size wc (w4.alloc o) := fun o => hw4.alloc hw4.size o
        go_wp2_with fail
        have hcw4 := HT0.out _ _ HCW.out hw4
        obtain ⟨w5, hw5⟩ : ∃ w5, w5 = w4.alloc (.cells #[.string name, .int .i64 top4, .int .i64 height4, .int .i64 left4, .int .i64 width4, .int .u8 align4, .bool bottom4] 44) := ⟨_, rfl⟩
        have hb5 : Below (w.heap.size + 1) W0 w5 := hw5 ▸ hcw4.alloc (HLT.out _ hcw4) _
        have hsz5 : w5.heap.size = w4.heap.size + 1 := by rw [hw5]; simp
        have hl4 := HLT.out _ hcw4
        have hky : w5.heap[w4.heap.size]? = some (.cells #[.string name, .int .i64 top4, .int .i64 height4, .int .i64 left4, .int .i64 width4, .int .u8 align4, .bool bottom4] 44 (0, 0)) := hw5 ▸ heap_alloc_last w4 _
        have HSP := Lib.hid (fun (w' : World) (h : Aside w5 g w') => (show ∀ b, b < w5.heap.size → b ≠ g → w'.heap[b]? = w5.heap[b]? from h))
        have cy : ∀ (w' : World), Aside w5 g w' → ∀ (j : Nat), w'.cell? ⟨w4.heap.size, j, none⟩ = _ := fun w' h j => cell_of_row _ _ j _ 44 (0, 0) ((HSP.out w' h w4.heap.size (by omega) (by omega)).trans hky)
        have HRS := Lib.hid (fun (w' : World) (h : Aside w5 g w') => (show w'.rangeAt w.heap.size 0 cs.toList from fun j v hv => (World.cell?_of_block (a := ⟨w.heap.size, 0 + j, none⟩) (HSP.out w' h w.heap.size (by omega) (by omega))).trans (HRG.out w5 hb5 j v hv)))
        have hd5 : Aside w5 g w5.drew := fun b _ _ => rfl
        have bg5 := BG.out w5.drew hb5.drew
        have HB5 := Lib.hid hb5
        have HW5 := Lib.hid hw5
        clear hky hw5 hcw4 hb5
        rw [← HW5.out]
        refine wp_region_held_drew (S := fun w' => Aside w5 g w') (by kernel_rfl) hd5 (fun hHeld => ?_)
        refine wpAnyH_take (i := 0) (v := .pointer (some ⟨g, 0, none⟩)) rfl (by kernel_rfl) (by kernel_rfl) (by kernel_rfl) (fun _ _ _ h => h) (.inl ⟨by rfl, fun w' h => by have h2 : Aside w5 g w' := h; go_simp⟩) (by assumption) ?_
        try simp only [Act.put, List.getElem_toArray, List.getElem_cons_zero, List.getElem_cons_succ, List.setIfInBounds_toArray, List.set_cons_zero, List.set_cons_succ, Array.toArray_toList]
        refine wpAnyH_take (i := 1) (v := .pointer (some ⟨g, 0, none⟩)) rfl (by kernel_rfl) (by kernel_rfl) (by kernel_rfl) (fun _ _ _ h => h) (.inl ⟨by rfl, fun w' h => by have h2 : Aside w5 g w' := h; go_simp⟩) (by assumption) ?_
        try simp only [Act.put, List.getElem_toArray, List.getElem_cons_zero, List.getElem_cons_succ, List.setIfInBounds_toArray, List.set_cons_zero, List.set_cons_succ, Array.toArray_toList]
        refine wpAnyH_take (i := 2) (v := .pointer (some ⟨g, 0, none⟩)) rfl (by kernel_rfl) (by kernel_rfl) (by kernel_rfl) (fun _ _ _ h => h) (.inl ⟨by rfl, fun w' h => by have h2 : Aside w5 g w' := h; go_simp⟩) (by assumption) ?_
        try simp only [Act.put, List.getElem_toArray, List.getElem_cons_zero, List.getElem_cons_succ, List.setIfInBounds_toArray, List.set_cons_zero, List.set_cons_succ, Array.toArray_toList]
        refine wpAnyH_take (i := 3) (v := .pointer (some ⟨g, 5, none⟩)) rfl (by kernel_rfl) (by kernel_rfl) (by kernel_rfl) (fun _ _ _ h => h) (.inl ⟨by rfl, fun w' h => by have h2 : Aside w5 g w' := h; go_simp⟩) (by assumption) ?_
        try simp only [Act.put, List.getElem_toArray, List.getElem_cons_zero, List.getElem_cons_succ, List.setIfInBounds_toArray, List.set_cons_zero, List.set_cons_succ, Array.toArray_toList]
        refine wpAnyH_take (i := 5) (v := .agg cs.toList.toArray) rfl (by kernel_rfl) (by kernel_rfl) (by kernel_rfl) (fun _ _ _ h => h) (yieldsIf_load_mid (by rfl) 54 (.tmp 3) rfl w.heap.size 0 rfl cs.toList _ (fun w h => HRS.out w h) Tryz.underlying54 rfl (by rw [size54, H59.out])) (by assumption) ?_
        try simp only [Act.put, List.getElem_toArray, List.getElem_cons_zero, List.getElem_cons_succ, List.setIfInBounds_toArray, List.set_cons_zero, List.set_cons_succ, Array.toArray_toList]
        refine wpAnyH_take (i := 6) (v := .int .i64 i) rfl (by kernel_rfl) (by kernel_rfl) (by kernel_rfl) (fun _ _ _ h => h) (.inl ⟨by rfl, fun w' h => by have h2 : Aside w5 g w' := h; go_simp⟩) (by assumption) ?_
        try simp only [Act.put, List.getElem_toArray, List.getElem_cons_zero, List.getElem_cons_succ, List.setIfInBounds_toArray, List.set_cons_zero, List.set_cons_succ, Array.toArray_toList]
        refine wpAnyH_take (i := 7) (v := .agg #[.string name, .int .i64 top4, .int .i64 height4, .int .i64 left4, .int .i64 width4, .int .u8 align4, .bool bottom4]) rfl (by kernel_rfl) (by kernel_rfl) (by kernel_rfl) (fun _ _ _ h => h) (.inl ⟨by rfl, fun w' h => by have h2 : Aside w5 g w' := h; go_simp⟩) (by assumption) ?_
        try simp only [Act.put, List.getElem_toArray, List.getElem_cons_zero, List.getElem_cons_succ, List.setIfInBounds_toArray, List.set_cons_zero, List.set_cons_succ, Array.toArray_toList]
        refine wpAnyH_ready (rs := [4]) (by kernel_rfl) (by simp) ?_
        refine AllReadyH.cons rfl (fun K1 hK1 => ?_) AllReadyH.nil
        go_simp
        refine hK1.out _ _ hd5 (fun hHeld3 => ?_)
        clear hK1
        try simp only [Act.put, List.getElem_toArray, List.getElem_cons_zero, List.getElem_cons_succ, List.setIfInBounds_toArray, List.set_cons_zero, List.set_cons_succ, Array.toArray_toList]
        refine wpAnyH_ready (rs := [8]) (by kernel_rfl) (by simp) ?_
        refine AllReadyH.cons rfl (fun K2 hK2 => ?_) AllReadyH.nil
        go_simp
        refine (HCHG.out w5.drew (HB.out _ HB5.out.drew) (by first | rfl | trivial)).mono ?_
        rintro e w6 ⟨a6, c6, rfl, hS6, hf6, hb6⟩
        have h6 : Aside w5 g w6 := fun b h1 _ => hb6.block b h1
        have hb06 := HT0.out _ _ HB5.out.drew hb6
        have bg6 := BG.out w6 hb06
        have zg6 := ZG.out w6 hb06
        have HFF := Lib.hid (fun w2 hw2 => HFIN.out w6 w2 a6 c6 (by first | rfl | trivial) (HB.out _ hb06) hS6 (fun ad e => by have h1 := hf6 ad e; have h2 : w5.heap.size ≤ ad.block := h1; omega) hw2)
        have H6 := Lib.hid (show Aside w5 g (w6.setCell ⟨g, 5, none⟩ (.slice a6 YS.length c6)) from fun b h1 h2 => (Below.heap_setCell _ _ _ b h2).trans (hb6.block b h1))
        clear hS6 hf6 hb6 bg5 HCHG HFIN hb06
        go_wp2_with fail
        refine hK2.out _ _ h6 (fun hHeld4 => ?_)
        clear hK2
        try simp only [Act.put, List.getElem_toArray, List.getElem_cons_zero, List.getElem_cons_succ, List.setIfInBounds_toArray, List.set_cons_zero, List.set_cons_succ, Array.toArray_toList]
        refine wpAnyH_take (i := 9) (v := .pointer (some ⟨g, 0, none⟩)) rfl (by kernel_rfl) (by kernel_rfl) (by kernel_rfl) (fun _ _ _ h => h) (.inl ⟨by rfl, fun w' h => by have h2 : Aside w5 g w' := h; go_simp⟩) (by assumption) ?_
        try simp only [Act.put, List.getElem_toArray, List.getElem_cons_zero, List.getElem_cons_succ, List.setIfInBounds_toArray, List.set_cons_zero, List.set_cons_succ, Array.toArray_toList]
        refine wpAnyH_take (i := 10) (v := .pointer (some ⟨g, 5, none⟩)) rfl (by kernel_rfl) (by kernel_rfl) (by kernel_rfl) (fun _ _ _ h => h) (.inl ⟨by rfl, fun w' h => by have h2 : Aside w5 g w' := h; go_simp⟩) (by assumption) ?_
        try simp only [Act.put, List.getElem_toArray, List.getElem_cons_zero, List.getElem_cons_succ, List.setIfInBounds_toArray, List.set_cons_zero, List.set_cons_succ, Array.toArray_toList]
        refine wpAnyH_ready (rs := [11]) (by kernel_rfl) (by simp) ?_
        refine AllReadyH.cons rfl (fun K3 hK3 => ?_) AllReadyH.nil
        go_simp
        refine hK3.out _ _ H6.out (fun hHeld5 => ?_)
        clear hK3
        try simp only [Act.put, List.getElem_toArray, List.getElem_cons_zero, List.getElem_cons_succ, List.setIfInBounds_toArray, List.set_cons_zero, List.set_cons_succ, Array.toArray_toList]
        refine wpAnyH_done (by kernel_rfl) ?_ _
        go_wp2_with fail
        exact HFF.out _ rfl
      · have hne : (ERR != 0) = true := by simpa using h0
        have HFE := Lib.hid (HERR.out _ (HB.out _ (HT0.out _ _ HCW.out hw4)) h0)
        clear HERR HFIN HCHG HEQ
        go_wp2_with fail
        exact HFE.out
end Go.Proofs.YtnlnmbcaongehaaGreatDoor
