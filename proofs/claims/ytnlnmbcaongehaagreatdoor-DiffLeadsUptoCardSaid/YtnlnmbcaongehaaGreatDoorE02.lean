/- The contract of diff.apply at a comment's change. (printed by gen_applycm.py out of ApplyReg's text) The contract of diff.apply at a header's change, and at a change that is none. (printed by gen_applyhd.py) What one change does to the contents of a document, in plain words; diff.apply does just that to a document in order. -/
import Derived.BigRegion
import Derived.Test.YtnlnmbcaongehaaGreatDoorBase16
import Derived.Test.YtnlnmbcaongehaaGreatDoorBase12
import Derived.Test.YtnlnmbcaongehaaGreatDoorE00
import Derived.Test.YtnlnmbcaongehaaGreatDoorBase06
import Derived.Test.YtnlnmbcaongehaaGreatDoorBase15
import Derived.Test.YtnlnmbcaongehaaGreatDoorBase14
import Derived.Test.YtnlnmbcaongehaaGreatDoorBase13
import Derived.Test.YtnlnmbcaongehaaGreatDoorBase03
import Derived.Test.YtnlnmbcaongehaaGreatDoorBase02
import Derived.Test.YtnlnmbcaongehaaGreatDoorBase01
import Derived.Test.YtnlnmbcaongehaaGreatDoorBase00
import Derived.Test.YtnlnmbcaongehaaGreatDoorBase04
import Derived.Test.YtnlnmbcaongehaaGreatDoorBase05
import Derived.Test.YtnlnmbcaongehaaGreatDoorE01
import Derived.Test.YtnlnmbcaongehaaGreatDoorBase17
import Derived.Test.YtnlnmbcaongehaaGreatDoorBase08
import Derived.Test.YtnlnmbcaongehaaGreatDoorBase07
import Derived.Test.YtnlnmbcaongehaaGreatDoorBase09
import Derived.Test.YtnlnmbcaongehaaGreatDoorBase18
set_option linter.unusedVariables false
set_option linter.unusedSimpArgs false
namespace Go.Proofs.YtnlnmbcaongehaaGreatDoor
open Go.RowKit
attribute [local go_sem ↓] Go.wp_at_zero Go.wp_at_succ
/-- The new comment: the change's own ID in the new value. -/
def newCm (c : Chg) : Cm := ⟨c.id, c.nc.ev, c.nc.frm, c.nc.til, c.nc.author, c.nc.text, c.nc.done, c.nc.lost⟩
def apCmErr (cms : List Cm) (c : Chg) : Int := allowedErr c.added (first (fun x : Cm => x.id == c.id) cms).isSome (cmEq (((first (fun x : Cm => x.id == c.id) cms).map (·.1)).getD zeroCm) c.oc)
def apCmIdx (cms : List Cm) (c : Chg) : Nat := ((first (fun x : Cm => x.id == c.id) cms).map (·.2)).getD 0
def applyCm (d : Doc) (c : Chg) : DocC := ⟨d.hd, d.regs, d.evs.map Ev.c, if apCmErr d.cms c = 0 then changedL c.added c.gone (apCmIdx d.cms c) (fun y : Cm => decide (y.id < (newCm c).id)) d.cms (newCm c) else d.cms⟩
theorem cms_fin {d : Doc} {g : Nat} {w w1 w2 : World} {ys : List Cm} {a : Option Addr} {c' : Nat} (hd : DocAt d g w) (hb : Below w.heap.size w w1) (hS : SliceOf 8 Cm.enc Flat w1 a ys) (hf : ∀ ad, a = some ad → w.heap.size ≤ ad.block) (hw : w2 = w1.setCell ⟨g, 7, none⟩ (.slice a ys.length c')) :
    ApplyPost 0 ⟨d.hd, d.regs, d.evs.map Ev.c, ys⟩ d g w (.returned (.int .i64 0)) w2 := by
  subst hw
  have hgw : g < w.heap.size := (Array.getElem?_eq_some_iff.1 hd.cells).1
  have h1 := hd.below hb
  have hsz : (w1.setCell ⟨g, 7, none⟩ (.slice a ys.length c')).heap.size = w1.heap.size := by simp
  have hfr : ∀ b, b ≠ g → (w1.setCell ⟨g, 7, none⟩ (.slice a ys.length c')).heap[b]? = w1.heap[b]? := fun b h => Below.heap_setCell _ _ _ _ h
  refine ⟨rfl, ⟨d.title, d.lang, d.rate, d.drop, d.last, d.ra, d.rc, d.regs, d.ea, d.ec, d.evs, a, c', ys⟩, heap_setCell_same _ _ _ _ _ _ h1.cells, rfl, ⟨?_, ?_, ?_⟩, fun b hu => ?_, ⟨hb.os, hb.tape, hb.output, by rw [hsz]; exact hb.size, fun k hk hne => ?_⟩⟩
  · exact SliceOf.frame h1.lies.1 (by omega) (fun b hu => hfr b (hd.apart b (.inl hu))) (fun _ _ _ => trivial)
  · exact EvsAt.frame h1.lies.2.1 (by omega) fun b hu => hfr b (hd.apart b (.inr (.inl hu)))
  · refine SliceOf.frame hS (by omega) (fun b hu => hfr b ?_) (fun _ _ _ => trivial)
    obtain ⟨_, ad, e, rfl⟩ := hu
    have := hf ad e
    omega
  · rcases hu with hu | hu | ⟨_, ad, e, rfl⟩
    · exact ⟨hd.apart b (.inl hu), .inl (.inl hu)⟩
    · exact ⟨hd.apart b (.inr (.inl hu)), .inl (.inr (.inl hu))⟩
    · have := hf ad e
      exact ⟨by omega, .inr this⟩
  · rw [hfr k (fun e => hne (by rw [e])), hb.block k hk]
theorem find43_full (r : Option (Cm × Nat)) : ∃ (x : Cm) (i : Int) (b : Bool), findVal43 r = .tuple #[.agg x.enc.toArray, .int .i64 i, .bool b] ∧ x = (r.map (·.1)).getD zeroCm ∧ b = r.isSome ∧ (b = true → i = ((((r.map (·.2)).getD 0 : Nat)) : Int)) := by
  cases r with
  | none => exact ⟨_, _, _, rfl, rfl, rfl, fun h => by cases h⟩
  | some q => exact ⟨_, _, _, rfl, rfl, rfl, fun _ => rfl⟩
set_option maxRecDepth 100000 in
set_option maxHeartbeats 6400000 in
theorem applyCm_calls (d : Doc) (g : Nat) (c : Chg) (w : World) (hsec : c.sec = 4) (hag : c.added = true → c.gone = false) (hd : DocAt d g w) (hl : d.cms.length ≤ 4000000) :
    Calls Tryz.prog 55 #[.pointer (some ⟨g, 0, none⟩), .agg c.enc.toArray] w (ApplyPost (apCmErr d.cms c) (applyCm d c) d g w) := by
  have HERR := Lib.hid (fun (w' : World) (hb : Below w.heap.size w w') (h0 : ¬ apCmErr d.cms c = 0) => (show ApplyPost (apCmErr d.cms c) (applyCm d c) d g w (.returned (.int .i64 (apCmErr d.cms c))) w' from by
    have := hd.same hb (apCmErr d.cms c)
    unfold applyCm
    rw [if_neg h0]
    exact this))
  obtain ⟨x, i, there, hv, hx, ht, hi⟩ := find43_full (first (fun x : Cm => x.id == c.id) d.cms)
  have HF := Lib.hid (fun (w1 : World) (h : Below w.heap.size w w1) => (show Calls Tryz.prog 43 #[.slice d.ca d.cms.length d.cc, .func (.func 42) #[] #[], .int .i64 c.id] w1 (fun e w' => e = .returned (.tuple #[.agg x.enc.toArray, .int .i64 i, .bool there]) ∧ Below w1.heap.size w1 w') from (find43_calls Flat.keeps d.ca d.cc d.cms c.id w1 (hd.lies.2.2.later h) (by omega)).mono (fun e w' p => ⟨by rw [← hv]; exact p.1, p.2⟩)))
  have hE : apCmErr d.cms c = allowedErr c.added there (cmEq x c.oc) := by rw [hx, ht]; rfl
  have HAL := Lib.hid (fun (s : Bool) (w1 : World) => allowed_calls c there s w1)
  have r1 := fun wx => run_cmEq x c.oc wx
  generalize hRE : cmEq x c.oc = RE at *
  generalize hERR : apCmErr d.cms c = ERR at *
  generalize hPOST : ApplyPost ERR (applyCm d c) d g w = Q at *
  have HSL := Lib.hid (fun (w1 : World) (h : Below w.heap.size w w1) => hd.lies.2.2.later h)
  have hgw : g < w.heap.size := (Array.getElem?_eq_some_iff.1 hd.cells).1
  have HGC := Lib.hid (fun (w1 : World) (h : Below w.heap.size w w1) => (h.block g hgw).trans hd.cells)
  have HCHG := Lib.hid (fun (w1 : World) (h : Below w.heap.size w w1) (h0 : ERR = 0) => changedCm_calls d.ca d.cc d.cms c (apCmIdx d.cms c) i (newCm c) w1 (hd.lies.2.2.later h) (fun ha => by
    rw [h0] at hE
    have hth : there = true := by
      cases there
      · rw [ha] at hE
        simp [allowedErr] at hE
      · rfl
    refine ⟨?_, hi hth⟩
    rw [hth] at ht
    unfold apCmIdx
    cases hf : first (fun x : Cm => x.id == c.id) d.cms with
    | none => rw [hf] at ht; cases ht
    | some q =>
      obtain ⟨y, k⟩ := q
      obtain ⟨_, hk, _⟩ := firstFrom_get _ _ 0 y k hf
      simpa using (List.getElem?_eq_some_iff.1 hk).1) hag hl)
  have HFIN := Lib.hid (fun (w1 w2 : World) (a : Option Addr) (c' : Nat) (h0 : ERR = 0) (hb : Below w.heap.size w w1) (hS : SliceOf 8 Cm.enc Flat w1 a (changedL c.added c.gone (apCmIdx d.cms c) (fun y : Cm => decide (y.id < (newCm c).id)) d.cms (newCm c))) (hf : ∀ ad, a = some ad → w.heap.size ≤ ad.block) (hw : w2 = w1.setCell ⟨g, 7, none⟩ (.slice a (changedL c.added c.gone (apCmIdx d.cms c) (fun y : Cm => decide (y.id < (newCm c).id)) d.cms (newCm c)).length c')) => (show Q (.returned (.int .i64 0)) w2 from by
    have := cms_fin hd hb hS hf hw
    rw [← hPOST, h0]
    unfold applyCm
    rw [if_pos (hERR.trans h0)]
    exact this))
  generalize changedL c.added c.gone (apCmIdx d.cms c) (fun y : Cm => decide (y.id < (newCm c).id)) d.cms (newCm c) = YS at *
  have HEQ := Lib.hid hE
  clear hd hv hx ht hi hPOST hRE hERR hE
  obtain ⟨sec, id, name, ad, gn, oh, nh, rg, nr, oe, ne, oc, nc⟩ := c
  simp only at hsec hag
  subst hsec
  obtain ⟨title, lang, rate, drop, last, ra, rc, regs, ea, ec, evs, ca, cc, cms⟩ := d
  obtain ⟨xcid, xev, xfrm, xtil, xau, xtx, xdn, xlo⟩ := x
  generalize hcl : Chg.enc _ = cl at *
  have hsz59 : cl.toArray.toList.length = 59 := by rw [← hcl]; rfl
  have hc0 : cl.toArray[0]? = some (.int .u8 4) := by rw [← hcl]; rfl
  have hc1 : cl.toArray[1]? = some (.int .i64 id) := by rw [← hcl]; rfl
  have hc3 : cl.toArray[3]? = some (.bool ad) := by rw [← hcl]; rfl
  have hc4 : cl.toArray[4]? = some (.bool gn) := by rw [← hcl]; rfl
  have hc43 : cl.toArray[43]? = some (.int .i64 oc.id) := by rw [← hcl]; rfl
  have hc44 : cl.toArray[44]? = some (.int .i64 oc.ev) := by rw [← hcl]; rfl
  have hc45 : cl.toArray[45]? = some (.int .i64 oc.frm) := by rw [← hcl]; rfl
  have hc46 : cl.toArray[46]? = some (.int .i64 oc.til) := by rw [← hcl]; rfl
  have hc47 : cl.toArray[47]? = some (.string oc.author) := by rw [← hcl]; rfl
  have hc48 : cl.toArray[48]? = some (.string oc.text) := by rw [← hcl]; rfl
  have hc49 : cl.toArray[49]? = some (.bool oc.done) := by rw [← hcl]; rfl
  have hc50 : cl.toArray[50]? = some (.bool oc.lost) := by rw [← hcl]; rfl
  have hc51 : cl.toArray[51]? = some (.int .i64 nc.id) := by rw [← hcl]; rfl
  have hc52 : cl.toArray[52]? = some (.int .i64 nc.ev) := by rw [← hcl]; rfl
  have hc53 : cl.toArray[53]? = some (.int .i64 nc.frm) := by rw [← hcl]; rfl
  have hc54 : cl.toArray[54]? = some (.int .i64 nc.til) := by rw [← hcl]; rfl
  have hc55 : cl.toArray[55]? = some (.string nc.author) := by rw [← hcl]; rfl
  have hc56 : cl.toArray[56]? = some (.string nc.text) := by rw [← hcl]; rfl
  have hc57 : cl.toArray[57]? = some (.bool nc.done) := by rw [← hcl]; rfl
  have hc58 : cl.toArray[58]? = some (.bool nc.lost) := by rw [← hcl]; rfl
  clear hcl
  obtain ⟨cid3, ev3, frm3, til3, au3, tx3, dn3, lo3⟩ := oc
  obtain ⟨cid4, ev4, frm4, til4, au4, tx4, dn4, lo4⟩ := nc
  obtain ⟨cs, hcs⟩ : ∃ cs, cs = cl.toArray := ⟨_, rfl⟩
  rw [← hcs] at hc0 hc1 hc3 hc4 hc43 hc44 hc45 hc46 hc47 hc48 hc49 hc50 hc51 hc52 hc53 hc54 hc55 hc56 hc57 hc58 hsz59
  simp only [← hcs, newCm, Doc.enc, Cm.enc] at *
  clear hcs
  have f0 := box_cell w cs 54 0 _ hc0
  have f1 := box_cell w cs 54 1 _ hc1
  have f3 := box_cell w cs 54 3 _ hc3
  have f4 := box_cell w cs 54 4 _ hc4
  have f43 := box_cell w cs 54 43 _ hc43
  have f44 := box_cell w cs 54 44 _ hc44
  have f45 := box_cell w cs 54 45 _ hc45
  have f46 := box_cell w cs 54 46 _ hc46
  have f47 := box_cell w cs 54 47 _ hc47
  have f48 := box_cell w cs 54 48 _ hc48
  have f49 := box_cell w cs 54 49 _ hc49
  have f50 := box_cell w cs 54 50 _ hc50
  have f51 := box_cell w cs 54 51 _ hc51
  have f52 := box_cell w cs 54 52 _ hc52
  have f53 := box_cell w cs 54 53 _ hc53
  have f54 := box_cell w cs 54 54 _ hc54
  have f55 := box_cell w cs 54 55 _ hc55
  have f56 := box_cell w cs 54 56 _ hc56
  have f57 := box_cell w cs 54 57 _ hc57
  have f58 := box_cell w cs 54 58 _ hc58
  have hb0 : Below (w.heap.size + 1) (w.alloc (.cells cs 54)) (w.alloc (.cells cs 54)) := Below.refl _ _
  have hsz : (w.alloc (.cells cs 54)).heap.size = w.heap.size + 1 := World.size_alloc _ _
  have HB := Lib.hid (fun (w1 : World) (h : Below (w.heap.size + 1) (w.alloc (.cells cs 54)) w1) => box_below h)
  have HRG := Lib.hid (fun (w1 : World) (h : Below (w.heap.size + 1) (w.alloc (.cells cs 54)) w1) => (show w1.rangeAt w.heap.size 0 cs.toList from fun j v hv => by
    rw [Nat.zero_add, cell_of_row _ _ j cs 54 (0, 0) ((h.block _ (by omega)).trans (heap_alloc_last w _))]
    simpa using hv))
  generalize hW0 : w.alloc (.cells cs 54) = W0 at *
  have HW0 := Lib.hid hW0
  have HSZ := Lib.hid hsz
  have HT0 := Lib.hid (fun (w2 w3 : World) (h : Below (w.heap.size + 1) W0 w2) (h3 : Below w2.heap.size w2 w3) => (h.trans (h3.mono (by have := h.size; rw [HSZ.out] at this; exact this)) : Below (w.heap.size + 1) W0 w3))
  have HLT := Lib.hid (fun (w2 : World) (h : Below (w.heap.size + 1) W0 w2) => (show w.heap.size + 1 ≤ w2.heap.size by have := h.size; rw [HSZ.out] at this; exact this))
  have bg : ∀ (w' : World), Below (w.heap.size + 1) W0 w' → ∀ (j : Nat), w'.cell? ⟨g, j, none⟩ = _ := fun w' h j => cell_of_row _ _ j _ 27 (0, 0) (HGC.out w' (HB.out _ h))
  have zg : ∀ (w' : World), Below (w.heap.size + 1) W0 w' → ∀ (j : Nat), w'.frozen? ⟨g, j, none⟩ = false := fun w' h j => by simp [World.frozen?, HGC.out w' (HB.out _ h)]
  have hbd : Below (w.heap.size + 1) W0 W0.drew := hb0.drew
  have HAD := Lib.hid (fun (o : Obj) => ((hb0.alloc (by rw [HSZ.out]; exact Nat.le_refl _) o).drew : Below (w.heap.size + 1) W0 (W0.alloc o).drew))
  have H59 := Lib.hid hsz59
  clear hW0 hsz hsz59 hc0 hc1 hc3 hc4 hc43 hc44 hc45 hc46 hc47 hc48 hc49 hc50 hc51 hc52 hc53 hc54 hc55 hc56 hc57 hc58
  have HAG := Lib.hid hag
  clear hag
  cases ad
  case' true => obtain rfl : gn = false := HAG.out rfl
  all_goals
    go_enter Tryz.func55, Tryz.ntmps55
    go_upto_region 1 with fail
    rw [HW0.out]
    go_upto_region 6 with fail
    go_cut [16, 17, 18] (fun s6 s7 s8 wx => ∃ gx, s6 = .pointer (some ⟨gx, 0, none⟩) ∧ s7 = .int .i64 i ∧ s8 = .bool there ∧ wx.heap[gx]? = some (.cells #[.int .i64 xcid, .int .i64 xev, .int .i64 xfrm, .int .i64 xtil, .string xau, .string xtx, .bool xdn, .bool xlo] 52 (0, 0)) ∧ w.heap.size + 1 ≤ gx ∧ Below (w.heap.size + 1) W0 wx)
    case first =>
      have HF1 := Lib.hid (fun (w1 : World) (h : Below (w.heap.size + 1) W0 w1) => (HF.out w1 (HB.out _ h)).mono (fun e w' p => (show e = _ ∧ Below (w.heap.size + 1) W0 w' ∧ Below w1.heap.size w1 w' from ⟨p.1, HT0.out _ _ h p.2, p.2⟩)))
      go_region_held3 (fun w' => Below (w.heap.size + 1) W0 w') (repeat (first | with_reducible assumption | with_reducible exact hbd | with_reducible exact HAD.out _ | with_reducible refine Below.setCell ?_ (by dsimp only; first | omega | (have := HSZ.out; simp; omega) | (have := HLT.out _ hc3; simp; omega)) _ | with_reducible refine Below.alloc ?_ (by first | exact HLT.out _ hc3 | (rw [HSZ.out]; exact Nat.le_refl _)) _)) (first
        | (go_at_call 43; (with_reducible refine (HF1.out _ ?_).mono ?_); (first | with_reducible assumption | with_reducible exact HAD.out _); rintro e w3 ⟨rfl, hc3, hr3⟩; (first | (with_reducible have hb3 := new_kept hr3; have HB3 := Lib.hid hb3; clear hb3) | skip); (first | (have bx3 : ∀ (j : Nat), w3.cell? ⟨W0.heap.size, j, none⟩ = _ := fun j => cell_of_row _ _ j _ 52 (0, 0) HB3.out; have zx3 : ∀ (j : Nat), w3.frozen? ⟨W0.heap.size, j, none⟩ = false := fun j => by simp [World.frozen?, HB3.out]) | skip); clear hr3))
      · go_wp2_with fail
        go_meet
        exact ⟨_, rfl, rfl, rfl, heap_alloc_last w3 _, HLT.out _ hc3, Below.alloc hc3 (HLT.out _ hc3) _⟩
      · go_wp2_with fail
        go_meet
        refine ⟨_, rfl, rfl, rfl, heap_setCell_same _ _ _ _ _ _ (heap_setCell_same _ _ _ _ _ _ (heap_setCell_same _ _ _ _ _ _ (heap_setCell_same _ _ _ _ _ _ (heap_setCell_same _ _ _ _ _ _ (heap_setCell_same _ _ _ _ _ _ (heap_setCell_same _ _ _ _ _ _ (heap_setCell_same _ _ _ _ _ _ HB3.out))))))), by rw [HSZ.out]; exact Nat.le_refl _, ?_⟩
        repeat refine Below.setCell ?_ (by rw [HSZ.out]; exact Nat.le_refl _) _
        exact hc3
    case rest =>
      obtain ⟨gx, rfl, rfl, rfl, hgx, hgb, hcw⟩ := hcut
      have hlx := (Array.getElem?_eq_some_iff.1 hgx).1
      have cx : ∀ (w' : World), Below wc.heap.size wc w' → ∀ (j : Nat), w'.cell? ⟨gx, j, none⟩ = _ := fun w' h j => cell_of_row _ _ j _ 52 (0, 0) ((h.block gx hlx).trans hgx)
      have k0 := fun (w' : World) (h : Below wc.heap.size wc w') => f0 w' (HT0.out _ _ hcw h)
      have k1 := fun (w' : World) (h : Below wc.heap.size wc w') => f1 w' (HT0.out _ _ hcw h)
      have k3 := fun (w' : World) (h : Below wc.heap.size wc w') => f3 w' (HT0.out _ _ hcw h)
      have k4 := fun (w' : World) (h : Below wc.heap.size wc w') => f4 w' (HT0.out _ _ hcw h)
      have k43 := fun (w' : World) (h : Below wc.heap.size wc w') => f43 w' (HT0.out _ _ hcw h)
      have k44 := fun (w' : World) (h : Below wc.heap.size wc w') => f44 w' (HT0.out _ _ hcw h)
      have k45 := fun (w' : World) (h : Below wc.heap.size wc w') => f45 w' (HT0.out _ _ hcw h)
      have k46 := fun (w' : World) (h : Below wc.heap.size wc w') => f46 w' (HT0.out _ _ hcw h)
      have k47 := fun (w' : World) (h : Below wc.heap.size wc w') => f47 w' (HT0.out _ _ hcw h)
      have k48 := fun (w' : World) (h : Below wc.heap.size wc w') => f48 w' (HT0.out _ _ hcw h)
      have k49 := fun (w' : World) (h : Below wc.heap.size wc w') => f49 w' (HT0.out _ _ hcw h)
      have k50 := fun (w' : World) (h : Below wc.heap.size wc w') => f50 w' (HT0.out _ _ hcw h)
      have k51 := fun (w' : World) (h : Below wc.heap.size wc w') => f51 w' (HT0.out _ _ hcw h)
      have k52 := fun (w' : World) (h : Below wc.heap.size wc w') => f52 w' (HT0.out _ _ hcw h)
      have k53 := fun (w' : World) (h : Below wc.heap.size wc w') => f53 w' (HT0.out _ _ hcw h)
      have k54 := fun (w' : World) (h : Below wc.heap.size wc w') => f54 w' (HT0.out _ _ hcw h)
      have k55 := fun (w' : World) (h : Below wc.heap.size wc w') => f55 w' (HT0.out _ _ hcw h)
      have k56 := fun (w' : World) (h : Below wc.heap.size wc w') => f56 w' (HT0.out _ _ hcw h)
      have k57 := fun (w' : World) (h : Below wc.heap.size wc w') => f57 w' (HT0.out _ _ hcw h)
      have k58 := fun (w' : World) (h : Below wc.heap.size wc w') => f58 w' (HT0.out _ _ hcw h)
      have HAE := Lib.hid (fun (w1 : World) => HAL.out RE w1)
      rw [← HEQ.out] at HAE
      have hwd : Below wc.heap.size wc wc.drew := (Below.refl _ _).drew
      have BG := Lib.hid bg
      have ZG := Lib.hid zg
      have HCW := Lib.hid hcw
      clear hgx bg zg hb0 hbd HAD HF HAL f0 f1 f3 f4 f43 f44 f45 f46 f47 f48 f49 f50 f51 f52 f53 f54 f55 f56 f57 f58
      go_upto_region 7 with fail
      refine wp_region_held_drew (S := fun w' => Below wc.heap.size wc w') (by kernel_rfl) hwd (fun hHeld => ?_)
      refine wpAnyH_take (i := 0) (v := .agg cs.toList.toArray) rfl (by kernel_rfl) (by kernel_rfl) (by kernel_rfl) (fun _ _ _ h => h) (yieldsIf_load_mid (by rfl) 54 (.tmp 3) rfl w.heap.size 0 rfl cs.toList _ (fun w h => HRG.out w (HT0.out _ _ HCW.out h)) Tryz.underlying54 rfl (by rw [size54, H59.out])) (by assumption) ?_
      try simp only [Act.put, List.getElem_toArray, List.getElem_cons_zero, List.getElem_cons_succ, List.setIfInBounds_toArray, List.set_cons_zero, List.set_cons_succ, Array.toArray_toList]
      refine wpAnyH_take (i := 1) (v := .bool there) rfl (by kernel_rfl) (by kernel_rfl) (by kernel_rfl) (fun _ _ _ h => h) (.inl ⟨by rfl, fun w h => by have h2 : Below wc.heap.size wc w := h; go_simp⟩) (by assumption) ?_
      try simp only [Act.put, List.getElem_toArray, List.getElem_cons_zero, List.getElem_cons_succ, List.setIfInBounds_toArray, List.set_cons_zero, List.set_cons_succ, Array.toArray_toList]
      refine wpAnyH_take (i := 2) (v := .agg #[.int .i64 xcid, .int .i64 xev, .int .i64 xfrm, .int .i64 xtil, .string xau, .string xtx, .bool xdn, .bool xlo]) rfl (by kernel_rfl) (by kernel_rfl) (by kernel_rfl) (fun _ _ _ h => h) (.inl ⟨by rfl, fun w h => by have h2 : Below wc.heap.size wc w := h; go_simp⟩) (by assumption) ?_
      try simp only [Act.put, List.getElem_toArray, List.getElem_cons_zero, List.getElem_cons_succ, List.setIfInBounds_toArray, List.set_cons_zero, List.set_cons_succ, Array.toArray_toList]
      refine wpAnyH_take (i := 3) (v := .pointer (some ⟨w.heap.size, 43, none⟩)) rfl (by kernel_rfl) (by kernel_rfl) (by kernel_rfl) (fun _ _ _ h => h) (.inl ⟨by rfl, fun w h => by have h2 : Below wc.heap.size wc w := h; go_simp⟩) (by assumption) ?_
      try simp only [Act.put, List.getElem_toArray, List.getElem_cons_zero, List.getElem_cons_succ, List.setIfInBounds_toArray, List.set_cons_zero, List.set_cons_succ, Array.toArray_toList]
      refine wpAnyH_take (i := 4) (v := .agg #[.int .i64 cid3, .int .i64 ev3, .int .i64 frm3, .int .i64 til3, .string au3, .string tx3, .bool dn3, .bool lo3]) rfl (by kernel_rfl) (by kernel_rfl) (by kernel_rfl) (fun _ _ _ h => h) (.inl ⟨by rfl, fun w h => by have h2 : Below wc.heap.size wc w := h; go_simp⟩) (by assumption) ?_
      try simp only [Act.put, List.getElem_toArray, List.getElem_cons_zero, List.getElem_cons_succ, List.setIfInBounds_toArray, List.set_cons_zero, List.set_cons_succ, Array.toArray_toList]
      refine wpAnyH_take (i := 5) (v := .bool RE) rfl (by kernel_rfl) (by kernel_rfl) (by kernel_rfl) (fun _ _ _ h => h) (.inl ⟨by rfl, fun w h => by have h2 : Below wc.heap.size wc w := h; go_simp⟩) (by assumption) ?_
      try simp only [Act.put, List.getElem_toArray, List.getElem_cons_zero, List.getElem_cons_succ, List.setIfInBounds_toArray, List.set_cons_zero, List.set_cons_succ, Array.toArray_toList]
      refine wpAnyH_ready (rs := [6]) (by kernel_rfl) (by simp) ?_
      refine AllReadyH.cons rfl (fun K hK => ?_) AllReadyH.nil
      go_simp
      refine (HAE.out _).mono ?_
      rintro e w4 ⟨rfl, hb4⟩
      have hw4 : Below wc.heap.size wc w4 := hwd.trans (hb4.mono hwd.size)
      clear hb4
      go_wp2_with fail
      refine hK.out _ _ hw4 (fun hHeld2 => ?_)
      clear hK
      try simp only [Act.put, List.getElem_toArray, List.getElem_cons_zero, List.getElem_cons_succ, List.setIfInBounds_toArray, List.set_cons_zero, List.set_cons_succ, Array.toArray_toList]
      refine wpAnyH_take (i := 7) (v := .int .i64 ERR) rfl (by kernel_rfl) (by kernel_rfl) (by kernel_rfl) (fun _ _ _ h => h) (.inl ⟨by rfl, fun w h => by have h2 : Below wc.heap.size wc w := h; go_simp⟩) (by assumption) ?_
      try simp only [Act.put, List.getElem_toArray, List.getElem_cons_zero, List.getElem_cons_succ, List.setIfInBounds_toArray, List.set_cons_zero, List.set_cons_succ, Array.toArray_toList]
      refine wpAnyH_done (by kernel_rfl) ?_ _
      by_cases h0 : ERR = 0
      · subst h0
        have hal4 : ∀ o, Below wc.heap.size wc (w4.alloc o) := fun o => hw4.alloc hw4.size o
        go_wp2_with fail
        have hcw4 := HT0.out _ _ HCW.out hw4
        obtain ⟨w5, hw5⟩ : ∃ w5, w5 = w4.alloc (.cells #[.int .i64 id, .int .i64 ev4, .int .i64 frm4, .int .i64 til4, .string au4, .string tx4, .bool dn4, .bool lo4] 52) := ⟨_, rfl⟩
        have hb5 : Below (w.heap.size + 1) W0 w5 := hw5 ▸ hcw4.alloc (HLT.out _ hcw4) _
        have hsz5 : w5.heap.size = w4.heap.size + 1 := by rw [hw5]; simp
        have hl4 := HLT.out _ hcw4
        have hky : w5.heap[w4.heap.size]? = some (.cells #[.int .i64 id, .int .i64 ev4, .int .i64 frm4, .int .i64 til4, .string au4, .string tx4, .bool dn4, .bool lo4] 52 (0, 0)) := hw5 ▸ heap_alloc_last w4 _
        have HSP := Lib.hid (fun (w' : World) (h : Aside w5 g w') => (show ∀ b, b < w5.heap.size → b ≠ g → w'.heap[b]? = w5.heap[b]? from h))
        have cy : ∀ (w' : World), Aside w5 g w' → ∀ (j : Nat), w'.cell? ⟨w4.heap.size, j, none⟩ = _ := fun w' h j => cell_of_row _ _ j _ 52 (0, 0) ((HSP.out w' h w4.heap.size (by omega) (by omega)).trans hky)
        have HRS := Lib.hid (fun (w' : World) (h : Aside w5 g w') => (show w'.rangeAt w.heap.size 0 cs.toList from fun j v hv => (World.cell?_of_block (a := ⟨w.heap.size, 0 + j, none⟩) (HSP.out w' h w.heap.size (by omega) (by omega))).trans (HRG.out w5 hb5 j v hv)))
        have hd5 : Aside w5 g w5.drew := fun b _ _ => rfl
        have bg5 := BG.out w5.drew hb5.drew
        have HB5 := Lib.hid hb5
        have HW5 := Lib.hid hw5
        clear hky hw5 hcw4 hb5
        rw [← HW5.out]
        refine wp_region_held_drew (S := fun w' => Aside w5 g w') (by kernel_rfl) hd5 (fun hHeld => ?_)
        refine wpAnyH_take (i := 0) (v := .pointer (some ⟨g, 0, none⟩)) rfl (by kernel_rfl) (by kernel_rfl) (by kernel_rfl) (fun _ _ _ h => h) (.inl ⟨by rfl, fun w' h => by have h2 : Aside w5 g w' := h; go_simp⟩) (by assumption) ?_
        try simp only [Act.put, List.getElem_toArray, List.getElem_cons_zero, List.getElem_cons_succ, List.setIfInBounds_toArray, List.set_cons_zero, List.set_cons_succ, Array.toArray_toList]
        refine wpAnyH_take (i := 1) (v := .pointer (some ⟨g, 0, none⟩)) rfl (by kernel_rfl) (by kernel_rfl) (by kernel_rfl) (fun _ _ _ h => h) (.inl ⟨by rfl, fun w' h => by have h2 : Aside w5 g w' := h; go_simp⟩) (by assumption) ?_
        try simp only [Act.put, List.getElem_toArray, List.getElem_cons_zero, List.getElem_cons_succ, List.setIfInBounds_toArray, List.set_cons_zero, List.set_cons_succ, Array.toArray_toList]
        refine wpAnyH_take (i := 2) (v := .pointer (some ⟨g, 0, none⟩)) rfl (by kernel_rfl) (by kernel_rfl) (by kernel_rfl) (fun _ _ _ h => h) (.inl ⟨by rfl, fun w' h => by have h2 : Aside w5 g w' := h; go_simp⟩) (by assumption) ?_
        try simp only [Act.put, List.getElem_toArray, List.getElem_cons_zero, List.getElem_cons_succ, List.setIfInBounds_toArray, List.set_cons_zero, List.set_cons_succ, Array.toArray_toList]
        refine wpAnyH_take (i := 3) (v := .pointer (some ⟨g, 7, none⟩)) rfl (by kernel_rfl) (by kernel_rfl) (by kernel_rfl) (fun _ _ _ h => h) (.inl ⟨by rfl, fun w' h => by have h2 : Aside w5 g w' := h; go_simp⟩) (by assumption) ?_
        try simp only [Act.put, List.getElem_toArray, List.getElem_cons_zero, List.getElem_cons_succ, List.setIfInBounds_toArray, List.set_cons_zero, List.set_cons_succ, Array.toArray_toList]
        refine wpAnyH_take (i := 5) (v := .agg cs.toList.toArray) rfl (by kernel_rfl) (by kernel_rfl) (by kernel_rfl) (fun _ _ _ h => h) (yieldsIf_load_mid (by rfl) 54 (.tmp 3) rfl w.heap.size 0 rfl cs.toList _ (fun w h => HRS.out w h) Tryz.underlying54 rfl (by rw [size54, H59.out])) (by assumption) ?_
        try simp only [Act.put, List.getElem_toArray, List.getElem_cons_zero, List.getElem_cons_succ, List.setIfInBounds_toArray, List.set_cons_zero, List.set_cons_succ, Array.toArray_toList]
        refine wpAnyH_take (i := 6) (v := .int .i64 i) rfl (by kernel_rfl) (by kernel_rfl) (by kernel_rfl) (fun _ _ _ h => h) (.inl ⟨by rfl, fun w' h => by have h2 : Aside w5 g w' := h; go_simp⟩) (by assumption) ?_
        try simp only [Act.put, List.getElem_toArray, List.getElem_cons_zero, List.getElem_cons_succ, List.setIfInBounds_toArray, List.set_cons_zero, List.set_cons_succ, Array.toArray_toList]
        refine wpAnyH_take (i := 7) (v := .agg #[.int .i64 id, .int .i64 ev4, .int .i64 frm4, .int .i64 til4, .string au4, .string tx4, .bool dn4, .bool lo4]) rfl (by kernel_rfl) (by kernel_rfl) (by kernel_rfl) (fun _ _ _ h => h) (.inl ⟨by rfl, fun w' h => by have h2 : Aside w5 g w' := h; go_simp⟩) (by assumption) ?_
        try simp only [Act.put, List.getElem_toArray, List.getElem_cons_zero, List.getElem_cons_succ, List.setIfInBounds_toArray, List.set_cons_zero, List.set_cons_succ, Array.toArray_toList]
        refine wpAnyH_ready (rs := [4]) (by kernel_rfl) (by simp) ?_
        refine AllReadyH.cons rfl (fun K1 hK1 => ?_) AllReadyH.nil
        go_simp
        refine hK1.out _ _ hd5 (fun hHeld3 => ?_)
        clear hK1
        try simp only [Act.put, List.getElem_toArray, List.getElem_cons_zero, List.getElem_cons_succ, List.setIfInBounds_toArray, List.set_cons_zero, List.set_cons_succ, Array.toArray_toList]
        refine wpAnyH_ready (rs := [8]) (by kernel_rfl) (by simp) ?_
        refine AllReadyH.cons rfl (fun K2 hK2 => ?_) AllReadyH.nil
        go_simp
        refine (HCHG.out w5.drew (HB.out _ HB5.out.drew) (by first | rfl | trivial)).mono ?_
        rintro e w6 ⟨a6, c6, rfl, hS6, hf6, hb6⟩
        have h6 : Aside w5 g w6 := fun b h1 _ => hb6.block b h1
        have hb06 := HT0.out _ _ HB5.out.drew hb6
        have bg6 := BG.out w6 hb06
        have zg6 := ZG.out w6 hb06
        have HFF := Lib.hid (fun w2 hw2 => HFIN.out w6 w2 a6 c6 (by first | rfl | trivial) (HB.out _ hb06) hS6 (fun ad e => by have h1 := hf6 ad e; have h2 : w5.heap.size ≤ ad.block := h1; omega) hw2)
        have H6 := Lib.hid (show Aside w5 g (w6.setCell ⟨g, 7, none⟩ (.slice a6 YS.length c6)) from fun b h1 h2 => (Below.heap_setCell _ _ _ b h2).trans (hb6.block b h1))
        clear hS6 hf6 hb6 bg5 HCHG HFIN hb06
        go_wp2_with fail
        refine hK2.out _ _ h6 (fun hHeld4 => ?_)
        clear hK2
        try simp only [Act.put, List.getElem_toArray, List.getElem_cons_zero, List.getElem_cons_succ, List.setIfInBounds_toArray, List.set_cons_zero, List.set_cons_succ, Array.toArray_toList]
        refine wpAnyH_take (i := 9) (v := .pointer (some ⟨g, 0, none⟩)) rfl (by kernel_rfl) (by kernel_rfl) (by kernel_rfl) (fun _ _ _ h => h) (.inl ⟨by rfl, fun w' h => by have h2 : Aside w5 g w' := h; go_simp⟩) (by assumption) ?_
        try simp only [Act.put, List.getElem_toArray, List.getElem_cons_zero, List.getElem_cons_succ, List.setIfInBounds_toArray, List.set_cons_zero, List.set_cons_succ, Array.toArray_toList]
        refine wpAnyH_take (i := 10) (v := .pointer (some ⟨g, 7, none⟩)) rfl (by kernel_rfl) (by kernel_rfl) (by kernel_rfl) (fun _ _ _ h => h) (.inl ⟨by rfl, fun w' h => by have h2 : Aside w5 g w' := h; go_simp⟩) (by assumption) ?_
        try simp only [Act.put, List.getElem_toArray, List.getElem_cons_zero, List.getElem_cons_succ, List.setIfInBounds_toArray, List.set_cons_zero, List.set_cons_succ, Array.toArray_toList]
        refine wpAnyH_ready (rs := [11]) (by kernel_rfl) (by simp) ?_
        refine AllReadyH.cons rfl (fun K3 hK3 => ?_) AllReadyH.nil
        go_simp
        refine hK3.out _ _ H6.out (fun hHeld5 => ?_)
        clear hK3
        try simp only [Act.put, List.getElem_toArray, List.getElem_cons_zero, List.getElem_cons_succ, List.setIfInBounds_toArray, List.set_cons_zero, List.set_cons_succ, Array.toArray_toList]
        refine wpAnyH_done (by kernel_rfl) ?_ _
        go_wp2_with fail
        exact HFF.out _ rfl
      · have hne : (ERR != 0) = true := by simpa using h0
        have HFE := Lib.hid (HERR.out _ (HB.out _ (HT0.out _ _ HCW.out hw4)) h0)
        clear HERR HFIN HCHG HEQ
        go_wp2_with fail
        exact HFE.out
end Go.Proofs.YtnlnmbcaongehaaGreatDoor
namespace Go.Proofs.YtnlnmbcaongehaaGreatDoor
open Go.RowKit
attribute [local go_sem ↓] Go.wp_at_zero Go.wp_at_succ
def apHdErr (h : Hd) (c : Chg) : Int := if hdEq h c.oh = true then 0 else 16
def applyHd (d : Doc) (c : Chg) : DocC := ⟨if hdEq d.hd c.oh = true then c.nh else d.hd, d.regs, d.evs.map Ev.c, d.cms⟩
theorem hd_fin {d : Doc} {g : Nat} {w w1 w2 : World} {h : Hd} (hd : DocAt d g w) (hb : Below w.heap.size w w1) (hh : w2.heap[g]? = some (.cells (⟨h.title, h.lang, h.rate, h.drop, h.last, d.ra, d.rc, d.regs, d.ea, d.ec, d.evs, d.ca, d.cc, d.cms⟩ : Doc).enc.toArray 27 (0, 0))) (hs : w1.heap.size ≤ w2.heap.size) (hfr : ∀ b, b < w1.heap.size → b ≠ g → w2.heap[b]? = w1.heap[b]?) (ho : w2.os = w1.os ∧ w2.tape = w1.tape ∧ w2.output = w1.output) :
    ApplyPost 0 ⟨h, d.regs, d.evs.map Ev.c, d.cms⟩ d g w (.returned (.int .i64 0)) w2 := by
  have hgw : g < w.heap.size := (Array.getElem?_eq_some_iff.1 hd.cells).1
  have h1 := hd.below hb
  have hsz := hb.size
  refine ⟨rfl, ⟨h.title, h.lang, h.rate, h.drop, h.last, d.ra, d.rc, d.regs, d.ea, d.ec, d.evs, d.ca, d.cc, d.cms⟩, hh, rfl, ⟨?_, ?_, ?_⟩, fun b hu => ⟨hd.apart b hu, .inl hu⟩, ⟨ho.1.trans hb.os, ho.2.1.trans hb.tape, ho.2.2.trans hb.output, by omega, fun k hk hne => ?_⟩⟩
  · exact SliceOf.frame h1.lies.1 hs (fun b hu => hfr b (sUses_lt h1.lies.1 hu) (hd.apart b (.inl hu))) (fun _ _ _ => trivial)
  · exact EvsAt.frame h1.lies.2.1 hs fun b hu => hfr b (evsUse_lt h1.lies.2.1 hu) (hd.apart b (.inr (.inl hu)))
  · exact SliceOf.frame h1.lies.2.2 hs (fun b hu => hfr b (sUses_lt h1.lies.2.2 hu) (hd.apart b (.inr (.inr hu)))) (fun _ _ _ => trivial)
  · rw [hfr k (by omega) (fun e => hne (by rw [e])), hb.block k hk]
set_option maxRecDepth 100000 in
set_option maxHeartbeats 6400000 in
theorem applyHd_calls (d : Doc) (g : Nat) (c : Chg) (w : World) (hsec : c.sec = 1) (had : c.added = false) (hgn : c.gone = false) (hd : DocAt d g w) :
    Calls Tryz.prog 55 #[.pointer (some ⟨g, 0, none⟩), .agg c.enc.toArray] w (ApplyPost (apHdErr d.hd c) (applyHd d c) d g w) := by
  have HE := Lib.hid (fun (w' : World) (hb : Below w.heap.size w w') (h0 : hdEq d.hd c.oh = false) => (show ApplyPost (apHdErr d.hd c) (applyHd d c) d g w (.returned (.int .i64 16)) w' from by
    have := hd.same hb 16
    unfold apHdErr applyHd
    rw [h0]
    exact this))
  have HFIN := Lib.hid (fun (w1 w2 : World) (h0 : hdEq d.hd c.oh = true) hb hh hs hfr ho => (show ApplyPost (apHdErr d.hd c) (applyHd d c) d g w (.returned (.int .i64 0)) w2 from by
    have := hd_fin (d := d) (g := g) (w := w) (w1 := w1) (w2 := w2) (h := c.nh) hd hb hh hs hfr ho
    unfold apHdErr applyHd
    rw [h0]
    exact this))
  generalize ApplyPost (apHdErr d.hd c) (applyHd d c) d g w = Q at *
  have hgw : g < w.heap.size := (Array.getElem?_eq_some_iff.1 hd.cells).1
  have HHD := Lib.hid (fun (w1 : World) => head_calls d w1)
  have r1 := fun wx => run_hdNe d.hd c.oh wx
  generalize hRE : hdEq d.hd c.oh = RE at *
  have HGC := Lib.hid (fun (w1 : World) (h : Below w.heap.size w w1) => (h.block g hgw).trans hd.cells)
  clear hd hRE
  obtain ⟨sec, id, name, ad, gn, oh, nh, rg, nr, oe, ne, oc, nc⟩ := c
  simp only at hsec had hgn
  subst hsec had hgn
  obtain ⟨title, lang, rate, drop, last, ra, rc, regs, ea, ec, evs, ca, cc, cms⟩ := d
  generalize hcl : Chg.enc _ = cl
  have hc0 : cl.toArray[0]? = some (.int .u8 1) := by rw [← hcl]; rfl
  have hc3 : cl.toArray[3]? = some (.bool false) := by rw [← hcl]; rfl
  have hc4 : cl.toArray[4]? = some (.bool false) := by rw [← hcl]; rfl
  have hc5 : cl.toArray[5]? = some (.string oh.title) := by rw [← hcl]; rfl
  have hc6 : cl.toArray[6]? = some (.string oh.lang) := by rw [← hcl]; rfl
  have hc7 : cl.toArray[7]? = some (.int .u8 oh.rate) := by rw [← hcl]; rfl
  have hc8 : cl.toArray[8]? = some (.bool oh.drop) := by rw [← hcl]; rfl
  have hc9 : cl.toArray[9]? = some (.int .i64 oh.last) := by rw [← hcl]; rfl
  have hc10 : cl.toArray[10]? = some (.string nh.title) := by rw [← hcl]; rfl
  have hc11 : cl.toArray[11]? = some (.string nh.lang) := by rw [← hcl]; rfl
  have hc12 : cl.toArray[12]? = some (.int .u8 nh.rate) := by rw [← hcl]; rfl
  have hc13 : cl.toArray[13]? = some (.bool nh.drop) := by rw [← hcl]; rfl
  have hc14 : cl.toArray[14]? = some (.int .i64 nh.last) := by rw [← hcl]; rfl
  have f0 := box_cell w cl.toArray 54 0 _ hc0
  have f3 := box_cell w cl.toArray 54 3 _ hc3
  have f4 := box_cell w cl.toArray 54 4 _ hc4
  have f5 := box_cell w cl.toArray 54 5 _ hc5
  have f6 := box_cell w cl.toArray 54 6 _ hc6
  have f7 := box_cell w cl.toArray 54 7 _ hc7
  have f8 := box_cell w cl.toArray 54 8 _ hc8
  have f9 := box_cell w cl.toArray 54 9 _ hc9
  have f10 := box_cell w cl.toArray 54 10 _ hc10
  have f11 := box_cell w cl.toArray 54 11 _ hc11
  have f12 := box_cell w cl.toArray 54 12 _ hc12
  have f13 := box_cell w cl.toArray 54 13 _ hc13
  have f14 := box_cell w cl.toArray 54 14 _ hc14
  clear hcl hc0 hc3 hc4 hc5 hc6 hc7 hc8 hc9 hc10 hc11 hc12 hc13 hc14
  simp only [Doc.enc, Doc.hd, Hd.enc] at *
  have hb0 : Below (w.heap.size + 1) (w.alloc (.cells cl.toArray 54)) (w.alloc (.cells cl.toArray 54)) := Below.refl _ _
  have hs0 : (w.alloc (.cells cl.toArray 54)).heap.size = w.heap.size + 1 := World.size_alloc _ _
  have HB := Lib.hid (fun (w1 : World) (h : Below (w.heap.size + 1) (w.alloc (.cells cl.toArray 54)) w1) => box_below h)
  generalize hW0 : w.alloc (.cells cl.toArray 54) = W0 at *
  have HW0 := Lib.hid hW0
  have HSZ := Lib.hid hs0
  have HT0 := Lib.hid (fun (w2 w3 : World) (h : Below (w.heap.size + 1) W0 w2) (h3 : Below w2.heap.size w2 w3) => (h.trans (h3.mono (by have := h.size; rw [HSZ.out] at this; exact this)) : Below (w.heap.size + 1) W0 w3))
  have HLT := Lib.hid (fun (w2 : World) (h : Below (w.heap.size + 1) W0 w2) => (show w.heap.size + 1 ≤ w2.heap.size by have := h.size; rw [HSZ.out] at this; exact this))
  have bg : ∀ (w' : World), Below (w.heap.size + 1) W0 w' → ∀ (j : Nat), w'.cell? ⟨g, j, none⟩ = _ := fun w' h j => cell_of_row _ _ j _ 27 (0, 0) (HGC.out w' (HB.out _ h))
  have hbd : Below (w.heap.size + 1) W0 W0.drew := hb0.drew
  clear hW0 hs0
  go_enter Tryz.func55, Tryz.ntmps55
  go_upto_region 1 with fail
  rw [HW0.out]
  go_upto_region 14 with fail
  go_cut [97] (fun s wx => s = .bool (!RE) ∧ Below (w.heap.size + 1) W0 wx)
  case first =>
    go_region_held3 (fun w' => Below (w.heap.size + 1) W0 w') (repeat (first | with_reducible assumption | with_reducible exact hbd)) (first
      | (go_at_call 33; (with_reducible refine (HHD.out _).mono ?_); rintro e w3 ⟨rfl, hb3⟩; have hc3 := HT0.out _ _ hbd hb3; clear hb3))
    all_goals
      go_wp2_with fail
      go_meet
      exact ⟨rfl, hc3⟩
  case rest =>
    obtain ⟨rfl, hcw⟩ := hcut
    have k := hcw
    cases RE
    · have HX := Lib.hid (HE.out wc (HB.out _ hcw) rfl)
      clear HFIN HE bg f0 f3 f4 f5 f6 f7 f8 f9 f10 f11 f12 f13 f14
      go_wp2_with fail
      exact HX.out
    · clear HE
      have hgl : g < wc.heap.size := by have := HLT.out _ hcw; omega
      have q5 := (Below.heap_alloc wc (.cells #[Value.string nh.title, .string nh.lang, .int .u8 nh.rate, .bool nh.drop, .int .i64 nh.last] 41) g hgl).trans (HGC.out wc (HB.out _ hcw))
      have n5 := heap_alloc_last wc (.cells #[Value.string nh.title, .string nh.lang, .int .u8 nh.rate, .bool nh.drop, .int .i64 nh.last] 41)
      have hbw : Below wc.heap.size wc (wc.alloc (.cells #[Value.string nh.title, .string nh.lang, .int .u8 nh.rate, .bool nh.drop, .int .i64 nh.last] 41)) := (Below.refl _ _).alloc (Nat.le_refl _) _
      have hsw : (wc.alloc (.cells #[Value.string nh.title, .string nh.lang, .int .u8 nh.rate, .bool nh.drop, .int .i64 nh.last] 41)).heap.size = wc.heap.size + 1 := World.size_alloc _ _
      go_upto_region 17 with fail
      generalize wc.alloc (.cells #[Value.string nh.title, .string nh.lang, .int .u8 nh.rate, .bool nh.drop, .int .i64 nh.last] 41) = w5 at *
      have e1 : ∀ (j : Nat), w5.cell? ⟨wc.heap.size, j, none⟩ = (#[Value.string nh.title, .string nh.lang, .int .u8 nh.rate, .bool nh.drop, .int .i64 nh.last] : Array Value)[j]? := fun j => cell_of_row _ _ j _ 41 (0, 0) n5
      have e2 : ∀ (j : Nat), w5.cell? ⟨g, j, none⟩ = (#[Value.string title, .string lang, .int .u8 rate, .bool drop, .int .i64 last, .slice ra regs.length rc, .slice ea evs.length ec, .slice ca cms.length cc] : Array Value)[j]? := fun j => cell_of_row _ _ j _ 27 (0, 0) q5
      have z2 : ∀ (j : Nat), w5.frozen? ⟨g, j, none⟩ = false := fun j => by simp [World.frozen?, q5]
      have hne : ¬ wc.heap.size = g := by omega
      have hne' : ¬ g = wc.heap.size := by omega
      have HQ5 := Lib.hid q5
      have HBW := Lib.hid hbw
      have HCW := Lib.hid hcw
      clear q5 n5 hbw hcw bg k f0 f3 f4 f5 f6 f7 f8 f9 f10 f11 f12 f13 f14 hb0 hbd
      have HB5 := Lib.hid ((HB.out _ HCW.out).trans (HBW.out.mono (HB.out _ HCW.out).size))
      go_region
      go_wp2_with fail
      refine HFIN.out w5 _ trivial HB5.out (heap_setCell_same _ _ _ _ _ _ (heap_setCell_same _ _ _ _ _ _ (heap_setCell_same _ _ _ _ _ _ (heap_setCell_same _ _ _ _ _ _ (heap_setCell_same _ _ _ _ _ _ HQ5.out))))) (by simp) (fun b h1 h2 => ?_) ⟨rfl, rfl, rfl⟩
      show ((((((w5.setCell _ _).setCell _ _).setCell _ _).setCell _ _).setCell _ _)).heap[b]? = _
      rw [Below.heap_setCell _ _ _ _ h2, Below.heap_setCell _ _ _ _ h2, Below.heap_setCell _ _ _ _ h2, Below.heap_setCell _ _ _ _ h2, Below.heap_setCell _ _ _ _ h2]
/-- The error of a change that is none. -/
def apBadErr (c : Chg) : Int := if c.sec < 1 ∨ 4 < c.sec then 3 else if (c.added && c.gone || (c.sec == 1 && (c.added || c.gone))) = true then 1 else 0
set_option maxRecDepth 100000 in
set_option maxHeartbeats 3200000 in
theorem applyBad_calls (d : Doc) (g : Nat) (c : Chg) (w : World) (h0 : 0 ≤ c.sec) (hE : apBadErr c ≠ 0) (hd : DocAt d g w) :
    Calls Tryz.prog 55 #[.pointer (some ⟨g, 0, none⟩), .agg c.enc.toArray] w (ApplyPost (apBadErr c) d.c d g w) := by
  have HE := Lib.hid (fun (w' : World) (hb : Below w.heap.size w w') => hd.same hb (apBadErr c))
  generalize hQ : ApplyPost (apBadErr c) d.c d g w = Q at *
  have hB : apBadErr c = if c.sec < 1 ∨ 4 < c.sec then 3 else if (c.added && c.gone || (c.sec == 1 && (c.added || c.gone))) = true then 1 else 0 := rfl
  generalize apBadErr c = E at *
  clear hd hQ
  obtain ⟨sec, id, name, ad, gn, oh, nh, rg, nr, oe, ne, oc, nc⟩ := c
  simp only at hB h0
  generalize hcl : Chg.enc _ = cl
  have hc0 : cl.toArray[0]? = some (.int .u8 sec) := by rw [← hcl]; rfl
  have hc3 : cl.toArray[3]? = some (.bool ad) := by rw [← hcl]; rfl
  have hc4 : cl.toArray[4]? = some (.bool gn) := by rw [← hcl]; rfl
  have f0 := box_cell w cl.toArray 54 0 _ hc0
  have f3 := box_cell w cl.toArray 54 3 _ hc3
  have f4 := box_cell w cl.toArray 54 4 _ hc4
  clear hcl hc0 hc3 hc4
  have hb0 : Below (w.heap.size + 1) (w.alloc (.cells cl.toArray 54)) (w.alloc (.cells cl.toArray 54)) := Below.refl _ _
  have HX := Lib.hid (HE.out _ ((Below.refl w.heap.size w).alloc (Nat.le_refl _) (.cells cl.toArray 54)))
  generalize hW0 : w.alloc (.cells cl.toArray 54) = W0 at *
  have HW0 := Lib.hid hW0
  clear hW0 HE
  have HB := Lib.hid hB
  clear hB
  by_cases s1 : sec < 1
  · have hx : E = 3 := by rw [HB.out, if_pos (.inl s1)]
    subst hx
    go_enter Tryz.func55, Tryz.ntmps55
    go_upto_region 1 with fail
    rw [HW0.out]
    go_wp2_with fail
    exact HX.out
  · by_cases s4 : 4 < sec
    · have hx : E = 3 := by rw [HB.out, if_pos (.inr s4)]
      subst hx
      go_enter Tryz.func55, Tryz.ntmps55
      go_upto_region 1 with fail
      rw [HW0.out]
      go_wp2_with fail
      exact HX.out
    · have hb : (ad && gn || (sec == 1 && (ad || gn))) = true := by
        rcases Bool.eq_false_or_eq_true (ad && gn || (sec == 1 && (ad || gn))) with h | h
        · exact h
        · exact absurd (by rw [HB.out, if_neg (fun h => h.elim s1 s4), h]; rfl) hE
      have hx : E = 1 := by rw [HB.out, if_neg (fun h => h.elim s1 s4), if_pos hb]
      subst hx
      cases ad <;> cases gn
      · simp at hb
      · obtain rfl : sec = 1 := by simpa using hb
        clear hb s1 s4
        go_enter Tryz.func55, Tryz.ntmps55
        go_upto_region 1 with fail
        rw [HW0.out]
        go_wp2_with fail
        exact HX.out
      · obtain rfl : sec = 1 := by simpa using hb
        clear hb s1 s4
        go_enter Tryz.func55, Tryz.ntmps55
        go_upto_region 1 with fail
        rw [HW0.out]
        go_wp2_with fail
        exact HX.out
      · clear hb
        go_enter Tryz.func55, Tryz.ntmps55
        go_upto_region 1 with fail
        rw [HW0.out]
        go_wp2_with fail
        exact HX.out
end Go.Proofs.YtnlnmbcaongehaaGreatDoor
namespace Go.Proofs.YtnlnmbcaongehaaGreatDoor
open Go.RowKit
/-- An ascending list, taken apart at a key (lo: below it; eq: at it). -/
theorem split_key {α : Type} (lo eq : α → Bool) (R : α → α → Prop) (hR : ∀ x y, R x y → lo x = false → lo y = false ∧ eq y = false) :
    ∀ xs : List α, xs.Pairwise R → ∃ (A : List α) (M : Option α) (B : List α), xs = A ++ M.toList ++ B ∧ (∀ a ∈ A, lo a = true) ∧ (∀ m, M = some m → lo m = false ∧ eq m = true) ∧ (∀ b ∈ B, lo b = false ∧ eq b = false)
  | [], _ => ⟨[], none, [], rfl, by simp, by simp, by simp⟩
  | x :: l, h => by
    rw [List.pairwise_cons] at h
    cases hx : lo x
    · have hl : ∀ b ∈ l, lo b = false ∧ eq b = false := fun b hb => hR x b (h.1 b hb) hx
      cases he : eq x
      · refine ⟨[], none, x :: l, rfl, by simp, by simp, fun b hb => ?_⟩
        rcases List.mem_cons.1 hb with rfl | hb
        · exact ⟨hx, he⟩
        · exact hl b hb
      · exact ⟨[], some x, l, rfl, by simp, fun m hm => by obtain rfl := Option.some.inj hm; exact ⟨hx, he⟩, hl⟩
    · obtain ⟨A, M, B, hl, h1, h2, h3⟩ := split_key lo eq R hR l h.2
      refine ⟨x :: A, M, B, by rw [hl]; simp, fun a ha => ?_, h2, h3⟩
      rcases List.mem_cons.1 ha with rfl | ha
      · exact hx
      · exact h1 a ha
/-- The list with v at the key, or without an element there. -/
def setAt {α : Type} (lo eq : α → Bool) (v : Option α) (xs : List α) : List α := xs.filter lo ++ v.toList ++ xs.filter fun x => !lo x && !eq x
theorem setAt_split {α : Type} {lo eq : α → Bool} {A B : List α} {M : Option α} (h1 : ∀ a ∈ A, lo a = true) (h2 : ∀ m, M = some m → lo m = false ∧ eq m = true) (h3 : ∀ b ∈ B, lo b = false ∧ eq b = false) (v : Option α) : setAt lo eq v (A ++ M.toList ++ B) = A ++ v.toList ++ B := by
  have a1 : A.filter lo = A := List.filter_eq_self.2 h1
  have a2 : (A.filter fun x => !lo x && !eq x) = [] := List.filter_eq_nil_iff.2 fun a ha => by simp [h1 a ha]
  have b1 : B.filter lo = [] := List.filter_eq_nil_iff.2 fun b hb => by simp [(h3 b hb).1]
  have b2 : (B.filter fun x => !lo x && !eq x) = B := List.filter_eq_self.2 fun b hb => by simp [h3 b hb]
  have m1 : M.toList.filter lo = [] := List.filter_eq_nil_iff.2 fun m hm => by simp [(h2 m (by simpa using hm)).1]
  have m2 : (M.toList.filter fun x => !lo x && !eq x) = [] := List.filter_eq_nil_iff.2 fun m hm => by simp [h2 m (by simpa using hm)]
  unfold setAt
  simp only [List.filter_append, a1, a2, b1, b2, m1, m2, List.append_nil, List.nil_append]
theorem firstFrom_append {α : Type} {eq : α → Bool} (L : List α) : ∀ (A : List α) (i : Nat), (∀ a ∈ A, eq a = false) → firstFrom eq (A ++ L) i = firstFrom eq L (i + A.length)
  | [], i, _ => rfl
  | a :: A, i, h => by
    rw [List.cons_append, firstFrom, if_neg (by rw [h a (by simp)]; decide), firstFrom_append L A (i + 1) fun b hb => h b (by simp [hb]), List.length_cons]
    congr 1
    omega
theorem firstFrom_none {α : Type} {eq : α → Bool} : ∀ (B : List α) (i : Nat), (∀ b ∈ B, eq b = false) → firstFrom eq B i = none
  | [], i, _ => rfl
  | b :: B, i, h => by rw [firstFrom, if_neg (by rw [h b (by simp)]; decide), firstFrom_none B (i + 1) fun b hb => h b (by simp [hb])]
theorem first_split {α : Type} {eq : α → Bool} {A B : List α} {M : Option α} (h1 : ∀ a ∈ A, eq a = false) (h2 : ∀ m, M = some m → eq m = true) (h3 : ∀ b ∈ B, eq b = false) : first eq (A ++ M.toList ++ B) = M.map fun m => (m, A.length) := by
  unfold first
  rw [List.append_assoc, firstFrom_append _ _ _ h1, Nat.zero_add]
  cases M with
  | none => simpa using firstFrom_none B _ h3
  | some m => simp [firstFrom, h2 m rfl]
theorem rankOf_split {α : Type} {lo : α → Bool} {B : List α} (h3 : ∀ b ∈ B, lo b = false) : ∀ A : List α, (∀ a ∈ A, lo a = true) → rankOf lo (A ++ B) = A.length
  | [], _ => by
    cases B with
    | nil => rfl
    | cons b B => rw [List.nil_append, rankOf, if_neg (by rw [h3 b (by simp)]; decide)]; rfl
  | a :: A, h => by rw [List.cons_append, rankOf, if_pos (h a (by simp)), rankOf_split h3 A fun b hb => h b (by simp [hb]), List.length_cons]
theorem changed_set {α : Type} {lo eq : α → Bool} {R : α → α → Prop} (hR : ∀ x y, R x y → lo x = false → lo y = false ∧ eq y = false) (hle : ∀ x, lo x = true → eq x = false) {xs : List α} (hp : xs.Pairwise R) (ad gn : Bool) (y : α)
    (ha : ad = true → first eq xs = none ∧ gn = false) (hn : ad = false → (first eq xs).isSome = true) : changedL ad gn (((first eq xs).map (·.2)).getD 0) lo xs y = setAt lo eq (if gn = true then none else some y) xs := by
  obtain ⟨A, M, B, rfl, h1, h2, h3⟩ := split_key lo eq R hR xs hp
  have hf := first_split (eq := eq) (A := A) (B := B) (M := M) (fun a h => hle a (h1 a h)) (fun m h => (h2 m h).2) fun b h => (h3 b h).2
  rw [setAt_split h1 h2 h3]
  rw [hf] at ha hn ⊢
  have hAB : ∀ L, L = A ++ B → insAt L (rankOf lo L) y = A ++ [y] ++ B := by
    rintro L rfl
    rw [rankOf_split (fun b h => (h3 b h).1) A h1]
    unfold insAt
    rw [List.take_left, List.drop_left]
  unfold changedL
  cases ad
  · have hm := hn rfl
    cases M with
    | none => simp at hm
    | some m =>
      have hd : dropAt (A ++ (some m).toList ++ B) A.length = A ++ B := by
        unfold dropAt
        rw [List.append_assoc, List.take_left, ← List.drop_drop, List.drop_left]
        simp
      simp only [Option.map_some, Option.getD_some, Bool.false_eq_true, if_false, hd]
      cases gn
      · simp only [Bool.false_eq_true, if_false, hAB _ rfl, Option.toList_some]
      · simp
  · obtain ⟨hm, rfl⟩ := ha rfl
    cases M with
    | some m => simp at hm
    | none =>
      have e : A ++ (none : Option α).toList ++ B = A ++ B := by simp
      rw [if_neg (by decide), if_pos rfl, hAB _ e]
      simp
theorem pairwise_set {α : Type} {lo eq : α → Bool} {R : α → α → Prop} (hR : ∀ x y, R x y → lo x = false → lo y = false ∧ eq y = false) {xs : List α} (hp : xs.Pairwise R) (v : Option α) (h1 : ∀ y, v = some y → ∀ a, lo a = true → R a y) (h2 : ∀ y, v = some y → ∀ b, lo b = false → eq b = false → R y b) : (setAt lo eq v xs).Pairwise R := by
  obtain ⟨A, M, B, rfl, q1, q2, q3⟩ := split_key lo eq R hR xs hp
  rw [setAt_split q1 q2 q3]
  have hAB : (A ++ B).Pairwise R := hp.sublist (by rw [List.append_assoc]; exact List.Sublist.append (List.Sublist.refl _) (List.sublist_append_right _ _))
  rw [List.pairwise_append] at hAB
  obtain ⟨hA, hB, hc⟩ := hAB
  rw [List.append_assoc, List.pairwise_append]
  refine ⟨hA, ?_, fun a ha x hx => ?_⟩
  · cases v with
    | none => simpa using hB
    | some y => exact List.pairwise_cons.2 ⟨fun b hb => h2 y rfl b (q3 b hb).1 (q3 b hb).2, hB⟩
  · rcases List.mem_append.1 hx with hx | hx
    · exact h1 x (by simpa using hx) a (q1 a ha)
    · exact hc a ha x hx
theorem setAt_le {α : Type} (lo eq : α → Bool) (v : Option α) (xs : List α) : (setAt lo eq v xs).length ≤ xs.length + 1 := by
  have h : ∀ l : List α, (l.filter lo).length + (l.filter fun x => !lo x && !eq x).length ≤ l.length := by
    intro l
    induction l with
    | nil => simp
    | cons x l ih =>
      simp only [List.filter_cons]
      cases lo x <;> cases eq x <;> simp <;> omega
  have := h xs
  unfold setAt
  rw [List.length_append, List.length_append]
  cases v <;> simp <;> omega
theorem setAt_mem {α : Type} {lo eq : α → Bool} {v : Option α} {xs : List α} {x : α} (h : x ∈ setAt lo eq v xs) : x ∈ xs ∨ v = some x := by
  unfold setAt at h
  rcases List.mem_append.1 h with h | h
  · rcases List.mem_append.1 h with h | h
    · exact .inl ((List.mem_filter.1 h).1)
    · exact .inr (by simpa using h)
  · exact .inl ((List.mem_filter.1 h).1)
def evLe (x y : EvC) : Bool := decide (x.inn < y.inn ∨ (x.inn = y.inn ∧ x.id ≤ y.id))
def evSort (l : List EvC) : List EvC := l.mergeSort evLe
theorem evSort_perm (l : List EvC) : (evSort l).Perm l := List.mergeSort_perm l _
theorem evSort_sorted (l : List EvC) : (evSort l).Pairwise fun x y => evLe x y = true :=
  List.pairwise_mergeSort (fun a b c h1 h2 => by simp only [evLe, decide_eq_true_eq] at *; omega) (fun a b => by simp only [evLe, Bool.or_eq_true, decide_eq_true_eq]; omega) l
theorem ids_inj {l : List EvC} (h : l.Pairwise fun x y => x.id ≠ y.id) {a b : EvC} (ha : a ∈ l) (hb : b ∈ l) (he : a.id = b.id) : a = b := by
  obtain ⟨i, hi, rfl⟩ := List.getElem_of_mem ha
  obtain ⟨j, hj, rfl⟩ := List.getElem_of_mem hb
  rw [List.pairwise_iff_getElem] at h
  rcases Nat.lt_trichotomy i j with hij | rfl | hij
  · exact absurd he (h i j hi hj hij)
  · rfl
  · exact absurd he.symm (h j i hj hi hij)
theorem evSort_unique {xs l : List EvC} (hp : xs.Perm l) (hs : xs.Pairwise fun x y => evLe x y = true) (hi : l.Pairwise fun x y => x.id ≠ y.id) : xs = evSort l := by
  refine List.Perm.eq_of_pairwise (le := fun x y => evLe x y = true) (fun a b ha hb h1 h2 => ?_) hs (evSort_sorted l) (hp.trans (evSort_perm l).symm)
  simp only [evLe, decide_eq_true_eq] at h1 h2
  exact ids_inj hi (hp.subset ha) ((evSort_perm l).subset hb) (by omega)
theorem evSort_lt {l : List EvC} (hi : l.Pairwise fun x y => x.id ≠ y.id) : (evSort l).Pairwise EvC.lt ∧ (evSort l).Pairwise fun x y => x.id ≠ y.id := by
  have h2 : (evSort l).Pairwise fun x y => x.id ≠ y.id := hi.perm (evSort_perm l).symm (fun h h' => h h'.symm)
  refine ⟨?_, h2⟩
  refine ((evSort_sorted l).and h2).imp fun h => ?_
  obtain ⟨h, h'⟩ := h
  simp only [evLe, decide_eq_true_eq] at h
  simp only [EvC.lt]
  omega
/-- The events with v at the ID, or without an event there. -/
def setEvs (evs : List EvC) (id : Int) (v : Option EvC) : List EvC := evSort (evs.filter (fun x => !(x.id == id)) ++ v.toList)
theorem setEvs_ids {evs : List EvC} (h : evs.Pairwise fun x y => x.id ≠ y.id) (id : Int) (v : Option EvC) (hv : ∀ y, v = some y → y.id = id) : (evs.filter (fun x => !(x.id == id)) ++ v.toList).Pairwise fun x y => x.id ≠ y.id := by
  rw [List.pairwise_append]
  refine ⟨h.sublist List.filter_sublist, by cases v <;> simp, fun a ha b hb => ?_⟩
  have h1 := (List.mem_filter.1 ha).2
  have h2 := hv b (by simpa using hb)
  simp at h1
  omega
theorem filter_at {evs : List EvC} (h : evs.Pairwise fun x y => x.id ≠ y.id) : ∀ (k : Nat) (m : EvC), evs[k]? = some m → evs.filter (fun x => !(x.id == m.id)) = dropAt evs k := by
  induction evs with
  | nil => intro k m hk; simp at hk
  | cons a l ih =>
    rw [List.pairwise_cons] at h
    intro k m hk
    cases k with
    | zero =>
      obtain rfl : a = m := by simpa using hk
      rw [List.filter_cons, if_neg (by simp), List.filter_eq_self.2 fun x hx => by simpa using fun e : x.id = a.id => h.1 x hx e.symm]
      rfl
    | succ k =>
      have hk' : l[k]? = some m := by simpa using hk
      have hne := h.1 m (List.mem_of_getElem? hk')
      rw [List.filter_cons, if_pos (by simpa using hne), ih h.2 k m hk']
      rfl
def ChgC.newReg (c : ChgC) : Reg := ⟨c.name, c.nr.top, c.nr.height, c.nr.left, c.nr.width, c.nr.align, c.nr.bottom⟩
def ChgC.newEv (c : ChgC) : EvC := ⟨c.id, c.ne.inn, c.ne.out, c.ne.region, c.ne.kind, c.ne.speaker, c.ne.rows⟩
def ChgC.newCm (c : ChgC) : Cm := ⟨c.id, c.nc.ev, c.nc.frm, c.nc.til, c.nc.author, c.nc.text, c.nc.done, c.nc.lost⟩
def badErr (c : ChgC) : Int := if c.sec < 1 ∨ 4 < c.sec then 3 else if (c.added && c.gone || (c.sec == 1 && (c.added || c.gone))) = true then 1 else 0
def regLo (k : ByteArray) (x : Reg) : Bool := Op.bytesLess x.name.toList k.toList
def regAt (k : ByteArray) (x : Reg) : Bool := x.name.toList == k.toList
def cmLo (k : Int) (x : Cm) : Bool := decide (x.id < k)
def cmAt (k : Int) (x : Cm) : Bool := x.id == k
def evAt (k : Int) (x : EvC) : Bool := x.id == k
def regChgErr (regs : List Reg) (c : ChgC) : Int := allowedErr c.added (regs.find? (regAt c.name)).isSome (regEq ((regs.find? (regAt c.name)).getD zeroReg) c.rg)
def cmChgErr (cms : List Cm) (c : ChgC) : Int := allowedErr c.added (cms.find? (cmAt c.id)).isSome (cmEq ((cms.find? (cmAt c.id)).getD zeroCm) c.oc)
def evChgErr (evs : List EvC) (c : ChgC) : Int := allowedErr c.added (evs.find? (evAt c.id)).isSome (evCEq ((evs.find? (evAt c.id)).getD zeroEvC) c.oe)
/-- The error of a change, and the document behind it (where there is an error: the document ahead of it). -/
def applyC (d : DocC) (c : ChgC) : Int × DocC :=
  if badErr c ≠ 0 then (badErr c, d)
  else if c.sec = 1 then (if hdEq d.hd c.oh = true then (0, ⟨c.nh, d.regs, d.evs, d.cms⟩) else (16, d))
  else if c.sec = 2 then (if regChgErr d.regs c = 0 then (0, ⟨d.hd, setAt (regLo c.name) (regAt c.name) (if c.gone = true then none else some c.newReg) d.regs, d.evs, d.cms⟩) else (regChgErr d.regs c, d))
  else if c.sec = 3 then (if evChgErr d.evs c = 0 then (0, ⟨d.hd, d.regs, setEvs d.evs c.id (if c.gone = true then none else some c.newEv), d.cms⟩) else (evChgErr d.evs c, d))
  else (if cmChgErr d.cms c = 0 then (0, ⟨d.hd, d.regs, d.evs, setAt (cmLo c.id) (cmAt c.id) (if c.gone = true then none else some c.newCm) d.cms⟩) else (cmChgErr d.cms c, d))
theorem reg_ord (k : ByteArray) (x y : Reg) (h : baLt x.name y.name) (hx : regLo k x = false) : regLo k y = false ∧ regAt k y = false := by
  have hx' : ¬ baLt x.name k := fun h => by rw [regLo, (bl_lt _ _).2 h] at hx; cases hx
  constructor
  · cases hy : regLo k y
    · rfl
    · exact absurd (baLt_trans h ((bl_lt _ _).1 hy)) hx'
  · cases hy : regAt k y
    · rfl
    · have e := ba_ext (a := y.name) (b := k) (by simpa [regAt] using hy)
      rw [e] at h
      exact absurd h hx'
theorem reg_low (k : ByteArray) (x : Reg) (h : regLo k x = true) : regAt k x = false := by
  cases hy : regAt k x
  · rfl
  · have e := ba_ext (a := x.name) (b := k) (by simpa [regAt] using hy)
    have := (bl_lt _ _).1 h
    rw [e] at this
    exact absurd this (List.lt_irrefl _)
theorem cm_ord (k : Int) (x y : Cm) (h : x.id < y.id) (hx : cmLo k x = false) : cmLo k y = false ∧ cmAt k y = false := by
  simp only [cmLo, cmAt, decide_eq_false_iff_not, beq_eq_false_iff_ne] at *
  omega
theorem cm_low (k : Int) (x : Cm) (h : cmLo k x = true) : cmAt k x = false := by
  simp only [cmLo, cmAt, decide_eq_true_eq, beq_eq_false_iff_ne] at *
  omega
theorem first_find {α : Type} (p : α → Bool) (xs : List α) : (first p xs).map (·.1) = xs.find? p := firstFrom_find p xs 0
theorem none_of {α : Type} {o : Option α} (h : o.isSome = false) : o = none := by
  cases o with
  | none => rfl
  | some x => cases h
theorem allowed_zero {ad th same : Bool} (h : allowedErr ad th same = 0) : (ad = true → th = false) ∧ (ad = false → th = true) := by
  cases ad <;> cases th <;> cases same <;> simp [allowedErr] at h ⊢
theorem isSome_first {α : Type} (p : α → Bool) (xs : List α) : (first p xs).isSome = (xs.find? p).isSome := by rw [← first_find, Option.isSome_map]
theorem apReg_eq (regs : List Reg) (x : Chg) : apRegErr regs x = regChgErr regs x.c := by
  unfold apRegErr regChgErr
  rw [isSome_first, first_find]
  rfl
theorem apCm_eq (cms : List Cm) (x : Chg) : apCmErr cms x = cmChgErr cms x.c := by
  unfold apCmErr cmChgErr
  rw [isSome_first, first_find]
  rfl
theorem find_c (id : Int) : ∀ evs : List Ev, (evs.map Ev.c).find? (evAt id) = (evs.find? fun x => x.id == id).map Ev.c
  | [] => rfl
  | x :: l => by
    have ih := find_c id l
    rw [List.map_cons, List.find?_cons, List.find?_cons]
    show (match x.id == id with | true => some x.c | false => _) = Option.map Ev.c (match x.id == id with | true => some x | false => _)
    cases x.id == id
    · exact ih
    · rfl
theorem apEv_eq (evs : List Ev) (x : Chg) : apEvErr evs x = evChgErr (evs.map Ev.c) x.c := by
  unfold apEvErr evChgErr
  rw [isSome_first, first_find, evEq_ev]
  show _ = allowedErr x.added ((evs.map Ev.c).find? (evAt x.id)).isSome (evCEq (((evs.map Ev.c).find? (evAt x.id)).getD zeroEvC) x.oe.c)
  rw [find_c, Option.isSome_map]
  congr 2
  cases evs.find? fun x_1 => x_1.id == x.id <;> rfl
theorem applyC_bad {d : DocC} {c : ChgC} (h : badErr c ≠ 0) : applyC d c = (badErr c, d) := by
  unfold applyC
  rw [if_pos h]
theorem applyReg_c {d : Doc} {x : Chg} (hd : DocOk d.c) (hb : badErr x.c = 0) (hsec : x.sec = 2) : (apRegErr d.regs x, applyReg d x) = applyC d.c x.c := by
  have hag : x.added = true → x.gone = false := by
    intro ha
    cases hg : x.gone
    · rfl
    · have : badErr x.c = 1 := by
        unfold badErr
        show (if x.sec < 1 ∨ 4 < x.sec then 3 else if (x.added && x.gone || (x.sec == 1 && (x.added || x.gone))) = true then 1 else 0) = (1 : Int)
        rw [if_neg (by omega), if_pos (by rw [ha, hg]; rfl)]
      rw [hb] at this
      cases this
  unfold applyC
  rw [if_neg (by simpa using hb), if_neg (by show ¬ x.sec = 1; omega), if_pos (show x.c.sec = 2 from hsec), ← apReg_eq]
  unfold applyReg
  show _ = (if apRegErr d.regs x = 0 then _ else _)
  by_cases h0 : apRegErr d.regs x = 0
  · rw [if_pos h0, if_pos h0]
    have hz := h0
    unfold apRegErr at hz
    obtain ⟨z1, z2⟩ := allowed_zero hz
    have := changed_set (lo := regLo x.name) (eq := regAt x.name) (reg_ord x.name) (reg_low x.name) hd.regs x.added x.gone (newReg x) (fun h => ⟨none_of (z1 h), hag h⟩) z2
    rw [h0]
    exact congrArg (fun l => ((0 : Int), (⟨d.hd, l, d.evs.map Ev.c, d.cms⟩ : DocC))) this
  · rw [if_neg h0, if_neg h0]
    rfl
theorem applyCm_c {d : Doc} {x : Chg} (hd : DocOk d.c) (hb : badErr x.c = 0) (hsec : x.sec = 4) : (apCmErr d.cms x, applyCm d x) = applyC d.c x.c := by
  have hag : x.added = true → x.gone = false := by
    intro ha
    cases hg : x.gone
    · rfl
    · have : badErr x.c = 1 := by
        unfold badErr
        show (if x.sec < 1 ∨ 4 < x.sec then 3 else if (x.added && x.gone || (x.sec == 1 && (x.added || x.gone))) = true then 1 else 0) = (1 : Int)
        rw [if_neg (by omega), if_pos (by rw [ha, hg]; rfl)]
      rw [hb] at this
      cases this
  unfold applyC
  rw [if_neg (by simpa using hb), if_neg (by show ¬ x.sec = 1; omega), if_neg (by show ¬ x.sec = 2; omega), if_neg (by show ¬ x.sec = 3; omega), ← apCm_eq]
  unfold applyCm
  show _ = (if apCmErr d.cms x = 0 then _ else _)
  by_cases h0 : apCmErr d.cms x = 0
  · rw [if_pos h0, if_pos h0]
    have hz := h0
    unfold apCmErr at hz
    obtain ⟨z1, z2⟩ := allowed_zero hz
    have := changed_set (lo := cmLo x.id) (eq := cmAt x.id) (cm_ord x.id) (cm_low x.id) hd.cms x.added x.gone (newCm x) (fun h => ⟨none_of (z1 h), hag h⟩) z2
    rw [h0]
    exact congrArg (fun l => ((0 : Int), (⟨d.hd, d.regs, d.evs.map Ev.c, l⟩ : DocC))) this
  · rw [if_neg h0, if_neg h0]
    rfl
end Go.Proofs.YtnlnmbcaongehaaGreatDoor
