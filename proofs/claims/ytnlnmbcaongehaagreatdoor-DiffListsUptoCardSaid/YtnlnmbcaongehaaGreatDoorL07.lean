/- The contract of the reference's Diff. (printed by gen_refdiff.py) -/
import Derived.Test.YtnlnmbcaongehaaGreatDoorBase09
import Derived.Test.YtnlnmbcaongehaaGreatDoorBase08
import Derived.Test.YtnlnmbcaongehaaGreatDoorBase07
import Derived.Test.YtnlnmbcaongehaaGreatDoorBase06
import Derived.Test.YtnlnmbcaongehaaGreatDoorL00
import Derived.Test.YtnlnmbcaongehaaGreatDoorBase03
import Derived.Test.YtnlnmbcaongehaaGreatDoorBase02
import Derived.Test.YtnlnmbcaongehaaGreatDoorBase01
import Derived.Test.YtnlnmbcaongehaaGreatDoorBase00
import Derived.Test.YtnlnmbcaongehaaGreatDoorL05
import Derived.Test.YtnlnmbcaongehaaGreatDoorL06
import Derived.Test.YtnlnmbcaongehaaGreatDoorL03
set_option linter.unusedVariables false
set_option linter.unusedSimpArgs false
namespace Go.Proofs.YtnlnmbcaongehaaGreatDoor
open Go.RowKit
attribute [local go_sem ↓] Go.wp_at_zero Go.wp_at_succ
theorem allEq_map {α β : Type} (f : β → β → Bool) (g : α → β) : ∀ xs ys : List α, Lib.allEq (fun x y => f (g x) (g y)) xs ys = Lib.allEq f (xs.map g) (ys.map g)
  | [], [] => rfl
  | [], _ :: _ => rfl
  | _ :: _, [] => rfl
  | x :: xs, y :: ys => by simp only [Lib.allEq, List.map_cons, allEq_map f g xs ys]
def evCEq (x y : EvC) : Bool := x.id == y.id && (x.inn == y.inn && x.out == y.out) && x.region.toList == y.region.toList && x.kind == y.kind && x.speaker.toList == y.speaker.toList && Lib.allEq (Lib.allEq runEq) x.rows y.rows
theorem evEq_ev (x y : Ev) : evEq x y = evCEq x.c y.c := by
  unfold evEq evCEq rowsEq
  rw [show Lib.allEq rowEq x.rows y.rows = Lib.allEq (Lib.allEq runEq) (x.rows.map Row.runs) (y.rows.map Row.runs) from allEq_map (Lib.allEq runEq) Row.runs x.rows y.rows]
  rfl
theorem KeysAt.ofStrs {zs : List ByteArray} {v kv : Value} {B : Nat} {w1 : World} (h : StrsB B w1 kv zs) (hv : ∀ b, v.ownBlock = some b → b < B) : ∃ a c, kv = .slice a zs.length c ∧ KeysAt Value.string zs a v w1 := by
  obtain ⟨a, c, rfl, hS⟩ := h.form
  refine ⟨a, c, rfl, hS, fun b hu e => ?_⟩
  obtain ⟨_, ad, rfl, rfl⟩ := hu
  have h1 := h.2 ad.block rfl
  have h2 := hv _ e
  omega
theorem KeysAt.ofInts {zs : List Int} {v kv : Value} {B : Nat} {w1 : World} (h : IntsB B w1 kv zs) (hv : ∀ b, v.ownBlock = some b → b < B) : ∃ a c, kv = .slice a zs.length c ∧ KeysAt (Value.int .i64) zs a v w1 := by
  obtain ⟨a, c, rfl, hS⟩ := h.form
  refine ⟨a, c, rfl, hS, fun b hu e => ?_⟩
  obtain ⟨_, ad, rfl, rfl⟩ := hu
  have h1 := h.2 ad.block rfl
  have h2 := hv _ e
  omega
theorem find47_val (r : Option (Reg × Nat)) : ∃ (x : Reg) (b : Bool), findVal47 r = .tuple #[.agg x.enc.toArray, .bool b] ∧ x = (r.map (·.1)).getD zeroReg ∧ b = r.isSome := by
  cases r with
  | none => exact ⟨_, _, rfl, rfl, rfl⟩
  | some q => exact ⟨_, _, rfl, rfl, rfl⟩
theorem cm_val (r : Option Cm) : ∃ (x : Cm) (b : Bool), cmVal r = .tuple #[.agg x.enc.toArray, .bool b] ∧ x = r.getD zeroCm ∧ b = r.isSome := by
  cases r with
  | none => exact ⟨_, _, rfl, rfl, rfl⟩
  | some q => exact ⟨_, _, rfl, rfl, rfl⟩
set_option maxRecDepth 100000 in
set_option maxHeartbeats 12800000 in
theorem refDiff_errA (a b : Doc) (w : World) (hE : Env w) (ha : a.lies w) (hb : b.lies w) (hfa : a.fits) (hfb : b.fits) (h0 : ¬ docErr a = 0) :
    Calls Tryz.prog 12 #[.agg a.enc.toArray, .agg b.enc.toArray] w (DiffPost a b w) := by
  have HQ := Lib.hid (fun (w' : World) (h : Below w.heap.size w w') => (show DiffPost a b w (.returned (.tuple #[.slice none 0 0, .int .i64 (docErr a)])) w' from by
    unfold DiffPost
    rw [if_pos h0]
    exact ⟨rfl, h⟩))
  have h0b : (docErr a != 0) = true := by simpa using h0
  have HCA := Lib.hid (fun (w1 : World) (h : Below w.heap.size w w1) => refDocCheck_calls a w1 (hE.below h (Nat.le_refl _)) (Doc.later ha h) hfa)
  have HCB := Lib.hid (fun (w1 : World) (h : Below w.heap.size w w1) => refDocCheck_calls b w1 (hE.below h (Nat.le_refl _)) (Doc.later hb h) hfb)
  generalize docErr a = E at *
  generalize docErr b = E' at *
  generalize DiffPost a b w = Q at *
  obtain ⟨title, lang, rate, drop, last, ra, rc, regs, ea, ec, evs, ca, cc, cms⟩ := a
  obtain ⟨title', lang', rate', drop', last', ra', rc', regs', ea', ec', evs', ca', cc', cms'⟩ := b
  simp only [Doc.enc] at *
  generalize hds : #[Value.string title, .string lang, .int .u8 rate, .bool drop, .int .i64 last, .slice ra regs.length rc, .slice ea evs.length ec, .slice ca cms.length cc] = ds
  generalize hqs : #[Value.string title', .string lang', .int .u8 rate', .bool drop', .int .i64 last', .slice ra' regs'.length rc', .slice ea' evs'.length ec', .slice ca' cms'.length cc'] = qs
  have f0 := box2_fst w ds qs 27 27 0 (.string title) (by rw [← hds]; rfl)
  have f1 := box2_fst w ds qs 27 27 1 (.string lang) (by rw [← hds]; rfl)
  have f2 := box2_fst w ds qs 27 27 2 (.int .u8 rate) (by rw [← hds]; rfl)
  have f3 := box2_fst w ds qs 27 27 3 (.bool drop) (by rw [← hds]; rfl)
  have f4 := box2_fst w ds qs 27 27 4 (.int .i64 last) (by rw [← hds]; rfl)
  have f5 := box2_fst w ds qs 27 27 5 (.slice ra regs.length rc) (by rw [← hds]; rfl)
  have f6 := box2_fst w ds qs 27 27 6 (.slice ea evs.length ec) (by rw [← hds]; rfl)
  have f7 := box2_fst w ds qs 27 27 7 (.slice ca cms.length cc) (by rw [← hds]; rfl)
  have g0 := box2_snd w ds qs 27 27 0 (.string title') (by rw [← hqs]; rfl)
  have g1 := box2_snd w ds qs 27 27 1 (.string lang') (by rw [← hqs]; rfl)
  have g2 := box2_snd w ds qs 27 27 2 (.int .u8 rate') (by rw [← hqs]; rfl)
  have g3 := box2_snd w ds qs 27 27 3 (.bool drop') (by rw [← hqs]; rfl)
  have g4 := box2_snd w ds qs 27 27 4 (.int .i64 last') (by rw [← hqs]; rfl)
  have g5 := box2_snd w ds qs 27 27 5 (.slice ra' regs'.length rc') (by rw [← hqs]; rfl)
  have g6 := box2_snd w ds qs 27 27 6 (.slice ea' evs'.length ec') (by rw [← hqs]; rfl)
  have g7 := box2_snd w ds qs 27 27 7 (.slice ca' cms'.length cc') (by rw [← hqs]; rfl)
  have HB := Lib.hid (fun (w1 : World) (h : Below (w.heap.size + 2) ((w.alloc (.cells ds 27)).alloc (.cells qs 27)) w1) => box2_below h)
  have hb0 : Below (w.heap.size + 2) ((w.alloc (.cells ds 27)).alloc (.cells qs 27)) ((w.alloc (.cells ds 27)).alloc (.cells qs 27)) := Below.refl _ _
  have hsz : ((w.alloc (.cells ds 27)).alloc (.cells qs 27)).heap.size = w.heap.size + 2 := by simp
  generalize hW0 : (w.alloc (.cells ds 27)).alloc (.cells qs 27) = W0 at *
  have HW0 := Lib.hid hW0
  have HSZ := Lib.hid hsz
  have HT0 := Lib.hid (fun (w2 w3 : World) (h : Below (w.heap.size + 2) W0 w2) (h3 : Below w2.heap.size w2 w3) => (h.trans (h3.mono (by have := h.size; rw [HSZ.out] at this; exact this)) : Below (w.heap.size + 2) W0 w3))
  have HLT := Lib.hid (fun (w2 : World) (h : Below (w.heap.size + 2) W0 w2) => (show w.heap.size + 2 ≤ w2.heap.size by have := h.size; rw [HSZ.out] at this; exact this))
  clear hW0 hsz ha hb hE hfa hfb h0
  go_enter Tryz.func12, Tryz.ntmps12
  subst hds
  subst hqs
  go_wp2_with fail
  rw [HW0.out]
  refine (HCA.out _ (HB.out _ hb0)).mono ?_
  rintro e w1 ⟨rfl, hb1⟩
  have hc1 := HT0.out _ _ hb0 hb1
  clear hb1 HCA
  go_wp2_with fail
  exact HQ.out _ (HB.out _ hc1)
set_option maxRecDepth 100000 in
set_option maxHeartbeats 12800000 in
theorem refDiff_errB (a b : Doc) (w : World) (hE : Env w) (ha : a.lies w) (hb : b.lies w) (hfa : a.fits) (hfb : b.fits) (h0 : docErr a = 0) (h1 : ¬ docErr b = 0) :
    Calls Tryz.prog 12 #[.agg a.enc.toArray, .agg b.enc.toArray] w (DiffPost a b w) := by
  have HQ := Lib.hid (fun (w' : World) (h : Below w.heap.size w w') => (show DiffPost a b w (.returned (.tuple #[.slice none 0 0, .int .i64 (docErr b)])) w' from by
    unfold DiffPost
    rw [if_neg (by simpa using h0), if_pos h1]
    exact ⟨rfl, h⟩))
  have h1b : (docErr b != 0) = true := by simpa using h1
  have HCA := Lib.hid (fun (w1 : World) (h : Below w.heap.size w w1) => refDocCheck_calls a w1 (hE.below h (Nat.le_refl _)) (Doc.later ha h) hfa)
  have HCB := Lib.hid (fun (w1 : World) (h : Below w.heap.size w w1) => refDocCheck_calls b w1 (hE.below h (Nat.le_refl _)) (Doc.later hb h) hfb)
  rw [h0] at HCA
  generalize docErr b = E at *
  generalize DiffPost a b w = Q at *
  obtain ⟨title, lang, rate, drop, last, ra, rc, regs, ea, ec, evs, ca, cc, cms⟩ := a
  obtain ⟨title', lang', rate', drop', last', ra', rc', regs', ea', ec', evs', ca', cc', cms'⟩ := b
  simp only [Doc.enc] at *
  generalize hds : #[Value.string title, .string lang, .int .u8 rate, .bool drop, .int .i64 last, .slice ra regs.length rc, .slice ea evs.length ec, .slice ca cms.length cc] = ds
  generalize hqs : #[Value.string title', .string lang', .int .u8 rate', .bool drop', .int .i64 last', .slice ra' regs'.length rc', .slice ea' evs'.length ec', .slice ca' cms'.length cc'] = qs
  have f0 := box2_fst w ds qs 27 27 0 (.string title) (by rw [← hds]; rfl)
  have f1 := box2_fst w ds qs 27 27 1 (.string lang) (by rw [← hds]; rfl)
  have f2 := box2_fst w ds qs 27 27 2 (.int .u8 rate) (by rw [← hds]; rfl)
  have f3 := box2_fst w ds qs 27 27 3 (.bool drop) (by rw [← hds]; rfl)
  have f4 := box2_fst w ds qs 27 27 4 (.int .i64 last) (by rw [← hds]; rfl)
  have f5 := box2_fst w ds qs 27 27 5 (.slice ra regs.length rc) (by rw [← hds]; rfl)
  have f6 := box2_fst w ds qs 27 27 6 (.slice ea evs.length ec) (by rw [← hds]; rfl)
  have f7 := box2_fst w ds qs 27 27 7 (.slice ca cms.length cc) (by rw [← hds]; rfl)
  have g0 := box2_snd w ds qs 27 27 0 (.string title') (by rw [← hqs]; rfl)
  have g1 := box2_snd w ds qs 27 27 1 (.string lang') (by rw [← hqs]; rfl)
  have g2 := box2_snd w ds qs 27 27 2 (.int .u8 rate') (by rw [← hqs]; rfl)
  have g3 := box2_snd w ds qs 27 27 3 (.bool drop') (by rw [← hqs]; rfl)
  have g4 := box2_snd w ds qs 27 27 4 (.int .i64 last') (by rw [← hqs]; rfl)
  have g5 := box2_snd w ds qs 27 27 5 (.slice ra' regs'.length rc') (by rw [← hqs]; rfl)
  have g6 := box2_snd w ds qs 27 27 6 (.slice ea' evs'.length ec') (by rw [← hqs]; rfl)
  have g7 := box2_snd w ds qs 27 27 7 (.slice ca' cms'.length cc') (by rw [← hqs]; rfl)
  have HB := Lib.hid (fun (w1 : World) (h : Below (w.heap.size + 2) ((w.alloc (.cells ds 27)).alloc (.cells qs 27)) w1) => box2_below h)
  have hb0 : Below (w.heap.size + 2) ((w.alloc (.cells ds 27)).alloc (.cells qs 27)) ((w.alloc (.cells ds 27)).alloc (.cells qs 27)) := Below.refl _ _
  have hsz : ((w.alloc (.cells ds 27)).alloc (.cells qs 27)).heap.size = w.heap.size + 2 := by simp
  generalize hW0 : (w.alloc (.cells ds 27)).alloc (.cells qs 27) = W0 at *
  have HW0 := Lib.hid hW0
  have HSZ := Lib.hid hsz
  have HT0 := Lib.hid (fun (w2 w3 : World) (h : Below (w.heap.size + 2) W0 w2) (h3 : Below w2.heap.size w2 w3) => (h.trans (h3.mono (by have := h.size; rw [HSZ.out] at this; exact this)) : Below (w.heap.size + 2) W0 w3))
  have HLT := Lib.hid (fun (w2 : World) (h : Below (w.heap.size + 2) W0 w2) => (show w.heap.size + 2 ≤ w2.heap.size by have := h.size; rw [HSZ.out] at this; exact this))
  clear hW0 hsz ha hb hE hfa hfb h0 h1
  go_enter Tryz.func12, Tryz.ntmps12
  subst hds
  subst hqs
  go_wp2_with fail
  rw [HW0.out]
  refine (HCA.out _ (HB.out _ hb0)).mono ?_
  rintro e w1 ⟨rfl, hb1⟩
  have hc1 := HT0.out _ _ hb0 hb1
  clear hb1 HCA
  go_wp2_with fail
  refine (HCB.out _ (HB.out _ hc1)).mono ?_
  rintro e w2 ⟨rfl, hb2⟩
  have hc2 := HT0.out _ _ hc1 hb2
  clear hb2 HCB hc1
  go_wp2_with fail
  exact HQ.out _ (HB.out _ hc2)
set_option maxRecDepth 100000 in
set_option maxHeartbeats 12800000 in
theorem refDiff_ok (a b : Doc) (w : World) (hE : Env w) (ha : a.lies w) (hb : b.lies w) (hfa : a.fits) (hfb : b.fits) (h0 : docErr a = 0) (h1 : docErr b = 0) :
    Calls Tryz.prog 12 #[.agg a.enc.toArray, .agg b.enc.toArray] w (DiffPost a b w) := by
  have HQ := Lib.hid (fun (v : Value) (W0 w' : World) (hB : w.heap.size + 2 ≤ W0.heap.size) (hW : Below w.heap.size w W0) (h2 : DRel (chgs a b) (w.heap.size + 2) W0 v w') => (show DiffPost a b w (.returned (.tuple #[v, .int .i64 0])) w' from by
    unfold DiffPost
    rw [if_neg (by simpa using h0), if_neg (by simpa using h1)]
    obtain ⟨zs, ⟨h4, h5, h6⟩, h3⟩ := h2
    exact ⟨v, zs, rfl, ⟨⟨h4.1, h4.2.imp id (fun ⟨g, cap, cur, q1, q2, q3⟩ => ⟨g, cap, cur, q1, by omega, q3⟩)⟩, fun z hz => ⟨(h5 z hz).1, fun b hu => ⟨((h5 z hz).2 b hu).1, by have := ((h5 z hz).2 b hu).2; omega⟩⟩, hW.trans (h6.mono (by omega))⟩, h3⟩))
  have HCA := Lib.hid (fun (w1 : World) (h : Below w.heap.size w w1) => refDocCheck_calls a w1 (hE.below h (Nat.le_refl _)) (Doc.later ha h) hfa)
  have HCB := Lib.hid (fun (w1 : World) (h : Below w.heap.size w w1) => refDocCheck_calls b w1 (hE.below h (Nat.le_refl _)) (Doc.later hb h) hfb)
  rw [h0] at HCA
  rw [h1] at HCB
  have HHA := Lib.hid (fun w1 => refHd_calls a w1)
  have HHB := Lib.hid (fun w1 => refHd_calls b w1)
  have hfea : ∀ x ∈ a.evs, x.rows.length ≤ 4000000 ∧ ∀ r ∈ x.rows, r.runs.length ≤ 4000000 := fun x hx => ⟨(hfa.2.2.2.2.2.2.2.1 x hx).2.2.2.2.2.2.2.2, fun r hr => ((hfa.2.2.2.2.2.2.2.1 x hx).2.2.2.2.2.2.2.1 r hr).2.1⟩
  have hfeb : ∀ x ∈ b.evs, x.rows.length ≤ 4000000 ∧ ∀ r ∈ x.rows, r.runs.length ≤ 4000000 := fun x hx => ⟨(hfb.2.2.2.2.2.2.2.1 x hx).2.2.2.2.2.2.2.2, fun r hr => ((hfb.2.2.2.2.2.2.2.1 x hx).2.2.2.2.2.2.2.1 r hr).2.1⟩
  have HKR := Lib.hid (fun (w1 : World) (h : Below w.heap.size w w1) => names_calls a b w1 (ha.1.later h) (hb.1.later h) hfa.2.2.2.2.2.2.1 hfb.2.2.2.2.2.2.1)
  have HKE := Lib.hid (fun (w1 : World) (h : Below w.heap.size w w1) => events_calls a b w1 (ha.2.1.later h) (hb.2.1.later h) hfa.2.2.2.2.2.2.2.2.1 hfb.2.2.2.2.2.2.2.2.1)
  have HKC := Lib.hid (fun (w1 : World) (h : Below w.heap.size w w1) => refComments_calls a b w1 (ha.2.2.later h) (hb.2.2.later h) hfa.2.2.2.2.2.2.2.2.2.2 hfb.2.2.2.2.2.2.2.2.2.2)
  unfold NamesPost at HKR
  unfold PutPost at HKE HKC
  have HFA := Lib.hid (fun (k : ByteArray) (w1 : World) (h : Below w.heap.size w w1) => region47_calls Flat.keeps a.ra a.rc a.regs k w1 (ha.1.later h) (by have := hfa.2.2.2.2.2.2.1; omega))
  have HFB := Lib.hid (fun (k : ByteArray) (w1 : World) (h : Below w.heap.size w w1) => region47_calls Flat.keeps b.ra b.rc b.regs k w1 (hb.1.later h) (by have := hfb.2.2.2.2.2.2.1; omega))
  have HGA := Lib.hid (fun (k : Int) (w1 : World) (h : Below w.heap.size w w1) => event49_calls a k w1 (ha.2.1.later h) hfa.2.2.2.2.2.2.2.2.1 hfea)
  have HGB := Lib.hid (fun (k : Int) (w1 : World) (h : Below w.heap.size w w1) => event49_calls b k w1 (hb.2.1.later h) hfb.2.2.2.2.2.2.2.2.1 hfeb)
  have HEVA := Lib.hid (fun (k : Int) => evc_got hfea (evIs k))
  have HEVB := Lib.hid (fun (k : Int) => evc_got hfeb (evIs k))
  have HMA := Lib.hid (fun (k : Int) (w1 : World) (h : Below w.heap.size w w1) => comment52_calls a k w1 (ha.2.2.later h) hfa.2.2.2.2.2.2.2.2.2.2)
  have HMB := Lib.hid (fun (k : Int) (w1 : World) (h : Below w.heap.size w w1) => comment52_calls b k w1 (hb.2.2.later h) hfb.2.2.2.2.2.2.2.2.2.2)
  have HCH := Lib.hid (show ((chgHead a.hd b.hd ++ (insNames [] (a.regs ++ b.regs)).flatMap (chgReg a.regs b.regs)) ++ (insAll (insAll [] a.evs) b.evs).flatMap (chgEv a.evs b.evs)) ++ (insAllC (insAllC [] a.cms) b.cms).flatMap (chgCm a.cms b.cms) = chgs a b by
    unfold chgs chgsOf
    rw [regKeys_ref, evKeys_ref, cmKeys_ref, List.append_assoc, List.append_assoc])
  have hll : (insNames [] (a.regs ++ b.regs)).length ≤ 8000000 := by
    have := insNames_len (a.regs ++ b.regs) []
    rw [List.length_append, List.length_nil] at this
    have := hfa.2.2.2.2.2.2.1
    have := hfb.2.2.2.2.2.2.1
    omega
  have hel : (insAll (insAll [] a.evs) b.evs).length ≤ 8000000 := by rw [evKeys_ref]; exact (refAll_len hfa hfb).1
  have hcl : (insAllC (insAllC [] a.cms) b.cms).length ≤ 8000000 := by rw [cmKeys_ref]; exact (refAll_len hfa hfb).2
  generalize insNames [] (a.regs ++ b.regs) = ls at *
  generalize insAll (insAll [] a.evs) b.evs = es at *
  generalize insAllC (insAllC [] a.cms) b.cms = cs at *
  generalize chgs a b = CHG at *
  generalize hhd : a.hd = hd1 at *
  generalize hhd' : b.hd = hd2 at *
  generalize DiffPost a b w = Q at *
  obtain ⟨title, lang, rate, drop, last, ra, rc, regs, ea, ec, evs, ca, cc, cms⟩ := a
  obtain ⟨title', lang', rate', drop', last', ra', rc', regs', ea', ec', evs', ca', cc', cms'⟩ := b
  simp only [Doc.enc, Doc.hd] at *
  generalize hds : #[Value.string title, .string lang, .int .u8 rate, .bool drop, .int .i64 last, .slice ra regs.length rc, .slice ea evs.length ec, .slice ca cms.length cc] = ds
  generalize hqs : #[Value.string title', .string lang', .int .u8 rate', .bool drop', .int .i64 last', .slice ra' regs'.length rc', .slice ea' evs'.length ec', .slice ca' cms'.length cc'] = qs
  have f0 := box2_fst w ds qs 27 27 0 (.string title) (by rw [← hds]; rfl)
  have f1 := box2_fst w ds qs 27 27 1 (.string lang) (by rw [← hds]; rfl)
  have f2 := box2_fst w ds qs 27 27 2 (.int .u8 rate) (by rw [← hds]; rfl)
  have f3 := box2_fst w ds qs 27 27 3 (.bool drop) (by rw [← hds]; rfl)
  have f4 := box2_fst w ds qs 27 27 4 (.int .i64 last) (by rw [← hds]; rfl)
  have f5 := box2_fst w ds qs 27 27 5 (.slice ra regs.length rc) (by rw [← hds]; rfl)
  have f6 := box2_fst w ds qs 27 27 6 (.slice ea evs.length ec) (by rw [← hds]; rfl)
  have f7 := box2_fst w ds qs 27 27 7 (.slice ca cms.length cc) (by rw [← hds]; rfl)
  have g0 := box2_snd w ds qs 27 27 0 (.string title') (by rw [← hqs]; rfl)
  have g1 := box2_snd w ds qs 27 27 1 (.string lang') (by rw [← hqs]; rfl)
  have g2 := box2_snd w ds qs 27 27 2 (.int .u8 rate') (by rw [← hqs]; rfl)
  have g3 := box2_snd w ds qs 27 27 3 (.bool drop') (by rw [← hqs]; rfl)
  have g4 := box2_snd w ds qs 27 27 4 (.int .i64 last') (by rw [← hqs]; rfl)
  have g5 := box2_snd w ds qs 27 27 5 (.slice ra' regs'.length rc') (by rw [← hqs]; rfl)
  have g6 := box2_snd w ds qs 27 27 6 (.slice ea' evs'.length ec') (by rw [← hqs]; rfl)
  have g7 := box2_snd w ds qs 27 27 7 (.slice ca' cms'.length cc') (by rw [← hqs]; rfl)
  have HB := Lib.hid (fun (w1 : World) (h : Below (w.heap.size + 2) ((w.alloc (.cells ds 27)).alloc (.cells qs 27)) w1) => box2_below h)
  have hb0 : Below (w.heap.size + 2) ((w.alloc (.cells ds 27)).alloc (.cells qs 27)) ((w.alloc (.cells ds 27)).alloc (.cells qs 27)) := Below.refl _ _
  have hsz : ((w.alloc (.cells ds 27)).alloc (.cells qs 27)).heap.size = w.heap.size + 2 := by simp
  generalize hW0 : (w.alloc (.cells ds 27)).alloc (.cells qs 27) = W0 at *
  have HW0 := Lib.hid hW0
  have HSZ := Lib.hid hsz
  have HT0 := Lib.hid (fun (w2 w3 : World) (h : Below (w.heap.size + 2) W0 w2) (h3 : Below w2.heap.size w2 w3) => (h.trans (h3.mono (by have := h.size; rw [HSZ.out] at this; exact this)) : Below (w.heap.size + 2) W0 w3))
  have HLT := Lib.hid (fun (w2 : World) (h : Below (w.heap.size + 2) W0 w2) => (show w.heap.size + 2 ≤ w2.heap.size by have := h.size; rw [HSZ.out] at this; exact this))
  have HWW := Lib.hid (HB.out _ hb0)
  have hBW : w.heap.size + 2 ≤ W0.heap.size := by rw [HSZ.out]; exact Nat.le_refl _
  obtain ⟨j0, jz, hj, hy0, hy1, hy2, hy3⟩ := chgInfo
  have JI := Lib.hid hj; have J0 := Lib.hid hy0; have J1 := Lib.hid hy1; have J2 := Lib.hid hy2; have J3 := Lib.hid hy3
  clear hW0 hsz ha hb hE hfa hfb h0 h1 hj hy0 hy1 hy2 hy3 hfea hfeb
  go_enter Tryz.func12, Tryz.ntmps12
  subst hds
  subst hqs
  go_wp2_with fail
  rw [HW0.out]
  refine (HCA.out _ (HB.out _ hb0)).mono ?_
  rintro e w1 ⟨rfl, hb1⟩
  have hc1 := HT0.out _ _ hb0 hb1
  clear hb1 HCA
  go_wp2_with fail
  refine (HCB.out _ (HB.out _ hc1)).mono ?_
  rintro e w2 ⟨rfl, hb2⟩
  have hc2 := HT0.out _ _ hc1 hb2
  clear hb2 HCB hc1
  have HF1 := Lib.hid (fun (w1 : World) (h : Below (w.heap.size + 2) W0 w1) => (HHA.out w1).mono (fun e w' (p : e = .returned (.agg hd1.enc.toArray) ∧ Below w1.heap.size w1 w') => (show e = .returned (.agg hd1.enc.toArray) ∧ Below (w.heap.size + 2) W0 w' from ⟨p.1, HT0.out _ _ h p.2⟩)))
  have HF2 := Lib.hid (fun (w1 : World) (h : Below (w.heap.size + 2) W0 w1) => (HHB.out w1).mono (fun e w' (p : e = .returned (.agg hd2.enc.toArray) ∧ Below w1.heap.size w1 w') => (show e = .returned (.agg hd2.enc.toArray) ∧ Below (w.heap.size + 2) W0 w' from ⟨p.1, HT0.out _ _ h p.2⟩)))
  have HPRE := Lib.hid (show chgHead hd1 hd2 = if hdEq hd1 hd2 = true then [] else [⟨1, 0, ⟨#[]⟩, false, false, hd1, hd2, zeroReg, zeroReg, zeroEvC, zeroEvC, zeroCm, zeroCm⟩] from rfl)
  have hpl := chgHead_le hd1 hd2
  have r1 := fun wx => run_hdNe hd1 hd2 wx
  subst hhd
  subst hhd'
  simp only [Hd.enc] at r1 HF1 HF2
  generalize hdEq _ _ = HE at *
  generalize chgHead _ _ = P0 at *
  clear HHA HHB
  have hc2d : Below (w.heap.size + 2) W0 w2.drew := hc2.drew
  go_upto_region 8 with fail
  go_region_held3 (fun w' => Below (w.heap.size + 2) W0 w') (first | with_reducible assumption | with_reducible exact hc2d) (first
    | (go_at_call 45; (with_reducible refine (HF1.out _ ?_).mono ?_); assumption; rintro e w3 ⟨rfl, hc3⟩)
    | (go_at_call 45; (with_reducible refine (HF2.out _ ?_).mono ?_); assumption; rintro e w4 ⟨rfl, hc4⟩))
  clear hc2d hc2
  go_upto_if 41 with fail
  go_cut [8] (fun s8 wx => DRel P0 (w.heap.size + 2) W0 s8 wx)
  case first =>
    cases HE with
    | true =>
      go_wp2_with fail
      go_meet
      rw [HPRE.out]
      exact ⟨[], GrowL.start hc4, rfl⟩
    | false =>
      have hc4d : Below (w.heap.size + 2) W0 w4.drew := hc4.drew
      go_upto_region 9 with fail
      go_region_held3 (fun w' => Below (w.heap.size + 2) W0 w') (first | with_reducible assumption | with_reducible exact hc4d | exact hc6.alloc (HLT.out _ hc6) _) (first
        | (go_at_call 45; (with_reducible refine (HF1.out _ ?_).mono ?_); assumption; rintro e w5 ⟨rfl, hc5⟩)
        | (go_at_call 45; (with_reducible refine (HF2.out _ ?_).mono ?_); assumption; rintro e w6 ⟨rfl, hc6⟩; obtain ⟨zs, hzl, hO, hP⟩ := DRel.owns (show DRel [] (w.heap.size + 2) W0 (.slice none 0 0) w6 from ⟨[], GrowL.start hc6, rfl⟩); have HP := Lib.hid hP; have HO := Lib.hid hO; have hs6 := HLT.out _ hc6; have HZL := Lib.hid (show zs.length ≤ 5 by rw [hzl]; simp); generalize zs.flatMap Chg.enc = zf at *; generalize zs.length = zn at *; clear hP hO hzl)
        | (refine step_append_at w6 _ rfl (.tmp 42) (.tmp 48) 29 rfl (w.heap.size + 2) 54 j0 _ 59 568 Tryz.underlying29 JI.out J0.out J1.out J2.out J3.out (by decide) (.slice none 0 0) zn zf (by rfl) HO.out w6.heap.size (by rfl) rfl rfl (fun u hu => Chg.one (⟨1, 0, ⟨#[]⟩, false, false, ⟨title, lang, rate, drop, last⟩, ⟨title', lang', rate', drop', last'⟩, zeroReg, zeroReg, zeroEv, zeroEv, zeroCm, zeroCm⟩ : Chg) u hu) (by have := HZL.out; unfold maxLen; omega) (by have := HZL.out; omega) hs6 ?_; intro v' w8 hown hgrow hat; have R := Lib.hid (HP.out (⟨1, 0, ⟨#[]⟩, false, false, ⟨title, lang, rate, drop, last⟩, ⟨title', lang', rate', drop', last'⟩, zeroReg, zeroReg, zeroEv, zeroEv, zeroCm, zeroCm⟩ : Chg) _ v' w8 rfl hown hgrow hat (flat_chg _ rfl rfl _).1 (fun b hu => ((flat_chg _ rfl rfl w6).2 b hu).elim) hBW); have hc8 := R.out.below; clear hown hgrow hat))
      go_wp2_with fail
      go_meet
      rw [HPRE.out]
      exact R.out
  case rest =>
  clear HF1 HF2 HPRE r1
  have hbc := hcut.below
  obtain ⟨av, an, ac, rfl⟩ := hcut.slice
  have HD := Lib.hid hcut
  clear hcut
  go_wp2_with fail
  refine (HKR.out _ (HB.out _ hbc)).mono ?_
  rintro e w3 ⟨kv, rfl, ho, hb3⟩
  obtain ⟨ka, kc, rfl, hKA⟩ := KeysAt.ofStrs (v := .slice av an ac) ho HD.out.lt
  have HL0 := Lib.hid (show LRel (P0) (chgReg regs regs') Value.string ls ka (w.heap.size + 2) W0 0 (.slice av an ac) w3 from ⟨by simpa using HD.out.later hBW hb3, hKA⟩)
  clear ho hb3 hKA HD hbc
  go_upto_block 0 with fail
  go_cut [8] (fun s9 wx => DRel (P0 ++ ls.flatMap (chgReg regs regs')) (w.heap.size + 2) W0 s9 wx)
  case first =>
    go_wp2_with fail
    go_loopw [8, 54] (fun s9 i wr => ∃ k : Nat, k ≤ ls.length ∧ i = .int .i64 k ∧ LRel (P0) (chgReg regs regs') Value.string ls ka (w.heap.size + 2) W0 k s9 wr) (fun _ i _ => ls.length - (intOf i).toNat)
    case atStart => exact ⟨0, by omega, rfl, HL0.out⟩
    case round =>
      clear HL0
      obtain ⟨k, hk, rfl, hR⟩ := hrel
      have hbr := hR.1.below
      obtain ⟨av, an, ac, rfl⟩ := hR.1.slice
      by_cases hlt : k < ls.length
      · obtain ⟨kb, ko, kn, rfl, hkl, hlk, hkc, _⟩ := hR.2.1.at_ hlt
        have q0 := hkc 0 _ rfl
        have HPU := Lib.hid (fun (w1 : World) (hb : Below wr.heap.size wr w1) => LRel.push hR hlk hBW hb (fun x => chgReg_le _ _ _))
        have HSK := Lib.hid (fun (w1 : World) (hb : Below wr.heap.size wr w1) (hf : chgReg regs regs' kn = []) => LRel.skip hR hlk hBW hb hf)
        obtain ⟨x, t1, hv1, hx1, ht1⟩ := find47_val (first (fun x : Reg => x.name.toList == kn.toList) regs)
        obtain ⟨y, t2, hv2, hx2, ht2⟩ := find47_val (first (fun x : Reg => x.name.toList == kn.toList) regs')
        have HCH := Lib.hid (show chgReg regs regs' kn = if (t1 != t2 || !regEq x y) = true then [⟨2, 0, kn, !t1, !t2, zeroHd, zeroHd, x, y, zeroEvC, zeroEvC, zeroCm, zeroCm⟩] else [] by rw [chgReg_of, hx1, hx2, ht1, ht2])
        have HF1 := Lib.hid (fun (w1 : World) (h : Below (w.heap.size + 2) W0 w1) => (show Calls Tryz.prog 47 #[.slice ra regs.length rc, .string kn] w1 (fun e w' => e = .returned (.tuple #[.agg x.enc.toArray, .bool t1]) ∧ Below w1.heap.size w1 w') from (HFA.out kn w1 (HB.out _ h)).mono (fun e w' p => ⟨by rw [← hv1]; exact p.1, p.2⟩)))
        have HF2 := Lib.hid (fun (w1 : World) (h : Below (w.heap.size + 2) W0 w1) => (show Calls Tryz.prog 47 #[.slice ra' regs'.length rc', .string kn] w1 (fun e w' => e = .returned (.tuple #[.agg y.enc.toArray, .bool t2]) ∧ Below w1.heap.size w1 w') from (HFB.out kn w1 (HB.out _ h)).mono (fun e w' p => ⟨by rw [← hv2]; exact p.1, p.2⟩)))
        clear hv1 hv2 hx1 hx2 ht1 ht2
        have hpre : P0.length ≤ 1 := hpl
        simp only [Nat.add_zero, Nat.mul_one] at q0 HPU
        have HROW := Lib.hid hR.1.lt
        have hbs := HLT.out _ hbr
        clear hR hkc hlk
        have r1 := fun wx => run_regNe x y wx
        generalize hEQ : regEq x y = EQ at HCH r1
        clear hEQ
        obtain ⟨xnm, xtop, xheight, xleft, xwidth, xalign, xbottom⟩ := x
        obtain ⟨ynm, ytop, yheight, yleft, ywidth, yalign, ybottom⟩ := y
        simp only [Reg.enc] at r1 HF1 HF2
        go_upto_block 1 with fail
        go_cut [8] (fun s9 wx => LRel (P0) (chgReg regs regs') Value.string ls (some ⟨kb, ko, none⟩) (w.heap.size + 2) W0 (k + 1) s9 wx)
        case first =>
          go_wp2_with fail
          refine (HF1.out _ hbr).mono ?_
          rintro e w3 ⟨rfl, hb3⟩
          have hc3 := HT0.out _ _ hbr hb3
          have ha3 : ∀ o, Below (w.heap.size + 2) W0 (w3.alloc o) := fun o => hc3.alloc (HLT.out _ hc3) o
          have H3 := Lib.hid hb3
          clear hb3 HF1 q0
          go_wp2_with fail
          refine (HF2.out _ (ha3 _)).mono ?_
          rintro e w4 ⟨rfl, hb4⟩
          have hc4 := HT0.out _ _ (ha3 _) hb4
          have hs4 : w3.heap.size + 1 ≤ w4.heap.size := by have := hb4.size; simpa using this
          have hk4 : w4.heap[w3.heap.size]? = some (.cells #[.string xnm, .int .i64 xtop, .int .i64 xheight, .int .i64 xleft, .int .i64 xwidth, .int .u8 xalign, .bool xbottom] 44 (0, 0)) := (hb4.block _ (by simp)).trans (heap_alloc_last w3 _)
          have b4 : ∀ (o : Obj) (j : Nat), (w4.alloc o).cell? ⟨w3.heap.size, j, none⟩ = _ := fun o j => cell_of_row _ _ j _ 44 (0, 0) (alloc_keep hk4)
          have HBX := Lib.hid (fun (o : Obj) => (show Below wr.heap.size wr (w4.alloc o) from ((H3.out.alloc H3.out.size _).trans (hb4.mono (by have := H3.out.size; simp; omega))).alloc (by have := H3.out.size; omega) o))
          have HSZA := Lib.hid (fun (o : Obj) => (World.size_alloc w4 o).symm)
          have HBS := Lib.hid (HLT.out _ hc4)
          clear hb4 HF2 hk4 H3 hc3 ha3
          rcases Classical.em (t1 = t2) with hne | hne
          case' inl =>
            subst hne
            cases EQ
          case inl.true =>
            have HS := Lib.hid (fun o => HSK.out _ (HBX.out o) (by rw [HCH.out]; simp))
            clear HSK HCH HPU
            go_wp2_with fail
            go_meet
            exact HS.out _
          case inl.false =>
            have HC2 := Lib.hid (show chgReg regs regs' kn = [⟨2, 0, kn, !t1, !t1, zeroHd, zeroHd, ⟨xnm, xtop, xheight, xleft, xwidth, xalign, xbottom⟩, ⟨ynm, ytop, yheight, yleft, ywidth, yalign, ybottom⟩, zeroEvC, zeroEvC, zeroCm, zeroCm⟩] by rw [HCH.out]; simp)
            obtain ⟨zn, zf, hzn, hO, hP⟩ := HPU.out _ (HBX.out (.cells #[.string ynm, .int .i64 ytop, .int .i64 yheight, .int .i64 yleft, .int .i64 ywidth, .int .u8 yalign, .bool ybottom] 44))
            have HP := Lib.hid hP
            clear hP HPU HCH HSK
            go_wp2_with (at_builtin; refine wpList_append_at _ _ rfl (.tmp 80) (.tmp 89) 29 rfl (w.heap.size + 2) 54 j0 _ 59 568 Tryz.underlying29 JI.out J0.out J1.out J2.out J3.out (by decide) _ _ _ rfl hO _ rfl (World.size_alloc _ _).symm ?hszq1 ?h1q1 ?h63q1 ?hbq1 ?hbaseq1 ?_)
            try (case hszq1 => rfl)
            case h1q1 => first | exact fun u hu => Chg.one (⟨2, 0, kn, !t1, !t1, zeroHd, zeroHd, ⟨xnm, xtop, xheight, xleft, xwidth, xalign, xbottom⟩, ⟨ynm, ytop, yheight, yleft, ywidth, yalign, ybottom⟩, zeroEv, zeroEv, zeroCm, zeroCm⟩ : Chg) u hu | ((repeat' apply And.intro) <;> rfl)
            case h63q1 => unfold maxLen; omega
            case hbq1 => omega
            try (case hbaseq1 => first | exact HBS.out | (have := HBS.out; first | omega | (simp; omega)))
            intro v' w2' hown hgrow hat
            have R := Lib.hid (HP.out (⟨2, 0, kn, !t1, !t1, zeroHd, zeroHd, ⟨xnm, xtop, xheight, xleft, xwidth, xalign, xbottom⟩, ⟨ynm, ytop, yheight, yleft, ywidth, yalign, ybottom⟩, zeroEv, zeroEv, zeroCm, zeroCm⟩ : Chg) _ v' w2' HC2.out rfl hown hgrow (by first | exact hat | (rw [World.size_alloc]; exact hat)) (flat_chg _ rfl rfl _).1 (fun b hu => ((flat_chg _ rfl rfl wr).2 b hu).elim))
            clear hown hgrow hat HP hO HC2
            go_wp2_with fail
            go_meet
            exact R.out
          case inr =>
            have HC2 := Lib.hid (show chgReg regs regs' kn = [⟨2, 0, kn, !t1, !t2, zeroHd, zeroHd, ⟨xnm, xtop, xheight, xleft, xwidth, xalign, xbottom⟩, ⟨ynm, ytop, yheight, yleft, ywidth, yalign, ybottom⟩, zeroEvC, zeroEvC, zeroCm, zeroCm⟩] by rw [HCH.out]; simp [hne])
            obtain ⟨zn, zf, hzn, hO, hP⟩ := HPU.out _ (HBX.out (.cells #[.string ynm, .int .i64 ytop, .int .i64 yheight, .int .i64 yleft, .int .i64 ywidth, .int .u8 yalign, .bool ybottom] 44))
            have HP := Lib.hid hP
            clear hP HPU HCH HSK
            go_wp2_with (at_builtin; refine wpList_append_at _ _ rfl (.tmp 80) (.tmp 89) 29 rfl (w.heap.size + 2) 54 j0 _ 59 568 Tryz.underlying29 JI.out J0.out J1.out J2.out J3.out (by decide) _ _ _ rfl hO _ rfl (World.size_alloc _ _).symm ?hszq2 ?h1q2 ?h63q2 ?hbq2 ?hbaseq2 ?_)
            try (case hszq2 => rfl)
            case h1q2 => first | exact fun u hu => Chg.one (⟨2, 0, kn, !t1, !t2, zeroHd, zeroHd, ⟨xnm, xtop, xheight, xleft, xwidth, xalign, xbottom⟩, ⟨ynm, ytop, yheight, yleft, ywidth, yalign, ybottom⟩, zeroEv, zeroEv, zeroCm, zeroCm⟩ : Chg) u hu | ((repeat' apply And.intro) <;> rfl)
            case h63q2 => unfold maxLen; omega
            case hbq2 => omega
            try (case hbaseq2 => first | exact HBS.out | (have := HBS.out; first | omega | (simp; omega)))
            intro v' w2' hown hgrow hat
            have R := Lib.hid (HP.out (⟨2, 0, kn, !t1, !t2, zeroHd, zeroHd, ⟨xnm, xtop, xheight, xleft, xwidth, xalign, xbottom⟩, ⟨ynm, ytop, yheight, yleft, ywidth, yalign, ybottom⟩, zeroEv, zeroEv, zeroCm, zeroCm⟩ : Chg) _ v' w2' HC2.out rfl hown hgrow (by first | exact hat | (rw [World.size_alloc]; exact hat)) (flat_chg _ rfl rfl _).1 (fun b hu => ((flat_chg _ rfl rfl wr).2 b hu).elim))
            clear hown hgrow hat HP hO HC2
            go_wp2_with fail
            go_meet
            exact R.out
        case rest =>
          clear HPU HSK HCH HF1 HF2 q0
          obtain ⟨av', an', ac', rfl⟩ := hcut.1.slice
          have HC := Lib.hid hcut
          clear hcut
          go_wp2_with fail
          go_roundw
          case rel => exact ⟨k + 1, by omega, by go_num, HC.out⟩
          all_goals first | (simp [intOf]; done) | (simp [intOf]; omega)
      · obtain rfl : k = ls.length := by omega
        have HN := Lib.hid (show DRel (P0 ++ ls.flatMap (chgReg regs regs')) (w.heap.size + 2) W0 (.slice av an ac) wr from by
          have := hR.1
          rwa [List.take_length] at this)
        clear hR
        go_wp2_with fail
        go_meet
        exact HN.out
  case rest =>
  clear HL0
  have hbc := hcut.below
  obtain ⟨av, an, ac, rfl⟩ := hcut.slice
  have HD := Lib.hid hcut
  clear hcut
  go_wp2_with fail
  refine (HKE.out _ (HB.out _ hbc)).mono ?_
  rintro e w3 ⟨kv, rfl, ho, hb3⟩
  obtain ⟨ka, kc, rfl, hKA⟩ := KeysAt.ofInts (v := .slice av an ac) ho HD.out.lt
  have HL0 := Lib.hid (show LRel (P0 ++ ls.flatMap (chgReg regs regs')) (chgEv evs evs') (Value.int .i64) es ka (w.heap.size + 2) W0 0 (.slice av an ac) w3 from ⟨by simpa using HD.out.later hBW hb3, hKA⟩)
  clear ho hb3 hKA HD hbc
  go_upto_block 2 with fail
  go_cut [8] (fun s9 wx => DRel (P0 ++ ls.flatMap (chgReg regs regs') ++ es.flatMap (chgEv evs evs')) (w.heap.size + 2) W0 s9 wx)
  case first =>
    go_wp2_with fail
    go_loopw [8, 96] (fun s9 i wr => ∃ k : Nat, k ≤ es.length ∧ i = .int .i64 k ∧ LRel (P0 ++ ls.flatMap (chgReg regs regs')) (chgEv evs evs') (Value.int .i64) es ka (w.heap.size + 2) W0 k s9 wr) (fun _ i _ => es.length - (intOf i).toNat)
    case atStart => exact ⟨0, by omega, rfl, HL0.out⟩
    case round =>
      clear HL0
      obtain ⟨k, hk, rfl, hR⟩ := hrel
      have hbr := hR.1.below
      obtain ⟨av, an, ac, rfl⟩ := hR.1.slice
      by_cases hlt : k < es.length
      · obtain ⟨kb, ko, kn, rfl, hkl, hlk, hkc, _⟩ := hR.2.1.at_ hlt
        have q0 := hkc 0 _ rfl
        have HPU := Lib.hid (fun (w1 : World) (hb : Below wr.heap.size wr w1) => LRel.push hR hlk hBW hb (fun x => chgEv_le _ _ _))
        have HSK := Lib.hid (fun (w1 : World) (hb : Below wr.heap.size wr w1) (hf : chgEv evs evs' kn = []) => LRel.skip hR hlk hBW hb hf)
        have HCH := Lib.hid (show chgEv evs evs' kn = if ((evs.find? (evIs kn)).isSome != (evs'.find? (evIs kn)).isSome || !evCEq ((evs.find? (evIs kn)).getD zeroEv).c ((evs'.find? (evIs kn)).getD zeroEv).c) = true then [⟨3, kn, ⟨#[]⟩, !(evs.find? (evIs kn)).isSome, !(evs'.find? (evIs kn)).isSome, zeroHd, zeroHd, zeroReg, zeroReg, ((evs.find? (evIs kn)).getD zeroEv).c, ((evs'.find? (evIs kn)).getD zeroEv).c, zeroCm, zeroCm⟩] else [] by rw [← evEq_ev]; rfl)
        have HF1 := Lib.hid (fun (w1 : World) (h : Below (w.heap.size + 2) W0 w1) => HGA.out kn w1 (HB.out _ h))
        have HF2 := Lib.hid (fun (w1 : World) (h : Below (w.heap.size + 2) W0 w1) => HGB.out kn w1 (HB.out _ h))
        unfold EvGot at HF1 HF2
        have HXM := Lib.hid (HEVA.out kn)
        have HYM := Lib.hid (HEVB.out kn)
        generalize (evs.find? (evIs kn)).isSome = t1 at *
        generalize (evs'.find? (evIs kn)).isSome = t2 at *
        generalize ((evs.find? (evIs kn)).getD zeroEv).c = XC at *
        generalize ((evs'.find? (evIs kn)).getD zeroEv).c = YC at *
        have hpr1 := flat_le (chgReg regs regs') (fun x => chgReg_le _ _ _) ls
        have hpre : (P0 ++ ls.flatMap (chgReg regs regs')).length ≤ 8000001 := by rw [List.length_append]; omega
        simp only [Nat.add_zero, Nat.mul_one] at q0 HPU
        have HROW := Lib.hid hR.1.lt
        have hbs := HLT.out _ hbr
        clear hR hkc hlk
        go_upto_block 3 with fail
        go_cut [8] (fun s9 wx => LRel (P0 ++ ls.flatMap (chgReg regs regs')) (chgEv evs evs') (Value.int .i64) es (some ⟨kb, ko, none⟩) (w.heap.size + 2) W0 (k + 1) s9 wx)
        case first =>
          go_wp2_with fail
          refine (HF1.out _ hbr).mono ?_
          rintro e w3 ⟨cx, rfl, hxc, hxl, hxu, hb3⟩
          have hc3 := HT0.out _ _ hbr hb3
          have HXL := Lib.hid hxl
          have HXU := Lib.hid hxu
          have HXS := Lib.hid (evc_fits hxc HXM.out)
          obtain ⟨xid, xin, xout, xreg, xkind, xsp, xa, xc, xrows⟩ := cx
          have ha3 : ∀ o, Below (w.heap.size + 2) W0 (w3.alloc o) := fun o => hc3.alloc (HLT.out _ hc3) o
          have H3 := Lib.hid hb3
          have HXC := Lib.hid hxc
          simp only [Ev.enc]
          clear hb3 HF1 q0 hxl hxu hxc
          go_wp2_with fail
          refine (HF2.out _ (ha3 _)).mono ?_
          rintro e w4 ⟨cy, rfl, hyc, hyl, hyu, hb4⟩
          have hc4 := HT0.out _ _ (ha3 _) hb4
          have HYL := Lib.hid hyl
          have HYU := Lib.hid hyu
          have HYS := Lib.hid (evc_fits hyc HYM.out)
          have HYC := Lib.hid hyc
          obtain ⟨yid, yin, yout, yreg, ykind, ysp, ya, yc, yrows⟩ := cy
          simp only [Ev.enc]
          have hs4 : w3.heap.size + 1 ≤ w4.heap.size := by have := hb4.size; simpa using this
          have hk4 : w4.heap[w3.heap.size]? = some (.cells #[.int .i64 xid, .int .i64 xin, .int .i64 xout, .string xreg, .int .u8 xkind, .string xsp, .slice xa xrows.length xc] 50 (0, 0)) := (hb4.block _ (by simp)).trans (heap_alloc_last w3 _)
          have HBX := Lib.hid (show Below wr.heap.size wr w4 from (H3.out.alloc H3.out.size _).trans (hb4.mono (by have := H3.out.size; simp; omega)))
          obtain ⟨wy, hwy⟩ : ∃ wy, wy = w4.alloc (.cells #[.int .i64 yid, .int .i64 yin, .int .i64 yout, .string yreg, .int .u8 ykind, .string ysp, .slice ya yrows.length yc] 50) := ⟨_, rfl⟩
          have hcy : Below (w.heap.size + 2) W0 wy := hwy ▸ hc4.alloc (HLT.out _ hc4) _
          have HBY := Lib.hid (show Below wr.heap.size wr wy from hwy ▸ HBX.out.alloc (by have := HBX.out.size; omega) _)
          have hky : wy.heap[w4.heap.size]? = some (.cells #[.int .i64 yid, .int .i64 yin, .int .i64 yout, .string yreg, .int .u8 ykind, .string ysp, .slice ya yrows.length yc] 50 (0, 0)) := hwy ▸ heap_alloc_last w4 _
          have hkx : wy.heap[w3.heap.size]? = some (.cells #[.int .i64 xid, .int .i64 xin, .int .i64 xout, .string xreg, .int .u8 xkind, .string xsp, .slice xa xrows.length xc] 50 (0, 0)) := hwy ▸ alloc_keep hk4
          have hly : w4.heap.size + 1 ≤ wy.heap.size := by rw [hwy]; simp
          have hw34 : wr.heap.size ≤ w3.heap.size := H3.out.size
          have HWY := Lib.hid hwy
          have h4y : Below w4.heap.size w4 wy := hwy ▸ (Below.refl _ _).alloc (Nat.le_refl _) _
          have h3y : Below w3.heap.size w3 wy := ((Below.refl _ _).alloc (Nat.le_refl _) _).trans ((hb4.mono (by simp)).trans (h4y.mono (by omega)))
          have HLX := Lib.hid (fun (w' : World) (h : Below wy.heap.size wy w') => Ev.keeps _ _ _ (h3y.trans (h.mono (by omega))) HXL.out)
          have HLY := Lib.hid (fun (w' : World) (h : Below wy.heap.size wy w') => Ev.keeps _ _ _ (h4y.trans (h.mono (by omega))) HYL.out)
          have HUX := Lib.hid HXU.out
          have HUY := Lib.hid (fun b hu => (show wr.heap.size ≤ b from by have := HYU.out b hu; simp at this; omega))
          have bx : ∀ (w' : World), Below wy.heap.size wy w' → ∀ (j : Nat), w'.cell? ⟨w3.heap.size, j, none⟩ = _ := fun w' h j => cell_of_row _ _ j _ 50 (0, 0) ((h.block _ (by omega)).trans hkx)
          have by_ : ∀ (w' : World), Below wy.heap.size wy w' → ∀ (j : Nat), w'.cell? ⟨w4.heap.size, j, none⟩ = _ := fun w' h j => cell_of_row _ _ j _ 50 (0, 0) ((h.block _ (by omega)).trans hky)
          have hyy : Below wy.heap.size wy wy := Below.refl _ _
          have HES := Lib.hid (refEvSame_calls (⟨xid, xin, xout, xreg, xkind, xsp, xa, xc, xrows⟩ : Ev) (⟨yid, yin, yout, yreg, ykind, ysp, ya, yc, yrows⟩ : Ev) wy (HLX.out _ hyy) (HLY.out _ hyy) HXS.out.2 HXS.out.1)
          rw [evEq_ev, HXC.out, HYC.out] at HES
          simp only [Ev.enc] at HES
          generalize hEQ : evCEq XC YC = EQ at HCH HES
          clear hEQ
          clear hb4 HF2 hk4 H3 hc3 ha3 hky hkx hwy h4y h3y hyl hyu hyc
          go_upto_region 23 with fail
          rw [← HWY.out]
          rcases Classical.em (t1 = t2) with hne | hne
          · subst hne
            go_wp2_with fail
            refine HES.out.mono ?_
            rintro e w5 ⟨rfl, hb5⟩
            have hc5 := HT0.out _ _ hcy hb5
            have HB5 := Lib.hid (HBY.out.trans (hb5.mono HBY.out.size))
            cases EQ with
            | true =>
              have HS := Lib.hid (HSK.out _ HB5.out (by rw [HCH.out]; simp))
              clear HSK HCH HPU
              go_wp2_with fail
              go_meet
              exact HS.out
            | false =>
              have HC2 := Lib.hid (show chgEv evs evs' kn = [⟨3, kn, ⟨#[]⟩, !t1, !t1, zeroHd, zeroHd, zeroReg, zeroReg, (⟨xid, xin, xout, xreg, xkind, xsp, xa, xc, xrows⟩ : Ev).c, (⟨yid, yin, yout, yreg, ykind, ysp, ya, yc, yrows⟩ : Ev).c, zeroCm, zeroCm⟩] by rw [HCH.out, HXC.out, HYC.out]; simp)
              have HSZA := Lib.hid (rfl : w5.heap.size = w5.heap.size)
              have HBS := Lib.hid (show w.heap.size + 2 ≤ w5.heap.size from by have := HB5.out.size; omega)
              obtain ⟨zn, zf, hzn, hO, hP⟩ := HPU.out _ HB5.out
              have HP := Lib.hid hP
              clear hP HPU HCH HSK
              go_wp2_with (at_builtin; refine wpList_append_at _ _ rfl (.tmp 121) (.tmp 130) 29 rfl (w.heap.size + 2) 54 j0 _ 59 568 Tryz.underlying29 JI.out J0.out J1.out J2.out J3.out (by decide) _ _ _ rfl hO _ rfl rfl ?hszq3 ?h1q3 ?h63q3 ?hbq3 ?hbaseq3 ?_)
              try (case hszq3 => rfl)
              case h1q3 => first | exact fun u hu => Chg.one (⟨3, kn, ⟨#[]⟩, !t1, !t1, zeroHd, zeroHd, zeroReg, zeroReg, ⟨xid, xin, xout, xreg, xkind, xsp, xa, xc, xrows⟩, ⟨yid, yin, yout, yreg, ykind, ysp, ya, yc, yrows⟩, zeroCm, zeroCm⟩ : Chg) u hu | ((repeat' apply And.intro) <;> rfl)
              case h63q3 => unfold maxLen; omega
              case hbq3 => omega
              try (case hbaseq3 => first | exact HBS.out | (have := HBS.out; first | omega | (simp; omega)))
              intro v' w2' hown hgrow hat
              have R := Lib.hid (HP.out (⟨3, kn, ⟨#[]⟩, !t1, !t1, zeroHd, zeroHd, zeroReg, zeroReg, ⟨xid, xin, xout, xreg, xkind, xsp, xa, xc, xrows⟩, ⟨yid, yin, yout, yreg, ykind, ysp, ya, yc, yrows⟩, zeroCm, zeroCm⟩ : Chg) _ v' w2' HC2.out rfl hown hgrow (by first | exact hat | (rw [World.size_alloc]; exact hat)) ⟨HLX.out _ (hb5.mono (Nat.le_refl _)), HLY.out _ hb5⟩ (fun b hu => hu.elim (HUX.out b) (HUY.out b)))
              clear hown hgrow hat HP hO HC2
              go_wp2_with fail
              go_meet
              exact R.out
          · have HC2 := Lib.hid (show chgEv evs evs' kn = [⟨3, kn, ⟨#[]⟩, !t1, !t2, zeroHd, zeroHd, zeroReg, zeroReg, (⟨xid, xin, xout, xreg, xkind, xsp, xa, xc, xrows⟩ : Ev).c, (⟨yid, yin, yout, yreg, ykind, ysp, ya, yc, yrows⟩ : Ev).c, zeroCm, zeroCm⟩] by rw [HCH.out, HXC.out, HYC.out]; simp [hne])
            have HSZA := Lib.hid (rfl : wy.heap.size = wy.heap.size)
            have HBS := Lib.hid (show w.heap.size + 2 ≤ wy.heap.size from by have := HBY.out.size; omega)
            obtain ⟨zn, zf, hzn, hO, hP⟩ := HPU.out _ HBY.out
            have HP := Lib.hid hP
            clear hP HPU HCH HSK
            go_wp2_with (at_builtin; refine wpList_append_at _ _ rfl (.tmp 121) (.tmp 130) 29 rfl (w.heap.size + 2) 54 j0 _ 59 568 Tryz.underlying29 JI.out J0.out J1.out J2.out J3.out (by decide) _ _ _ rfl hO _ rfl rfl ?hszq4 ?h1q4 ?h63q4 ?hbq4 ?hbaseq4 ?_)
            try (case hszq4 => rfl)
            case h1q4 => first | exact fun u hu => Chg.one (⟨3, kn, ⟨#[]⟩, !t1, !t2, zeroHd, zeroHd, zeroReg, zeroReg, ⟨xid, xin, xout, xreg, xkind, xsp, xa, xc, xrows⟩, ⟨yid, yin, yout, yreg, ykind, ysp, ya, yc, yrows⟩, zeroCm, zeroCm⟩ : Chg) u hu | ((repeat' apply And.intro) <;> rfl)
            case h63q4 => unfold maxLen; omega
            case hbq4 => omega
            try (case hbaseq4 => first | exact HBS.out | (have := HBS.out; first | omega | (simp; omega)))
            intro v' w2' hown hgrow hat
            have R := Lib.hid (HP.out (⟨3, kn, ⟨#[]⟩, !t1, !t2, zeroHd, zeroHd, zeroReg, zeroReg, ⟨xid, xin, xout, xreg, xkind, xsp, xa, xc, xrows⟩, ⟨yid, yin, yout, yreg, ykind, ysp, ya, yc, yrows⟩, zeroCm, zeroCm⟩ : Chg) _ v' w2' HC2.out rfl hown hgrow (by first | exact hat | (rw [World.size_alloc]; exact hat)) ⟨HLX.out _ hyy, HLY.out _ hyy⟩ (fun b hu => hu.elim (HUX.out b) (HUY.out b)))
            clear hown hgrow hat HP hO HC2
            go_wp2_with fail
            go_meet
            exact R.out
        case rest =>
          clear HPU HSK HCH HF1 HF2 q0
          obtain ⟨av', an', ac', rfl⟩ := hcut.1.slice
          have HC := Lib.hid hcut
          clear hcut
          go_wp2_with fail
          go_roundw
          case rel => exact ⟨k + 1, by omega, by go_num, HC.out⟩
          all_goals first | (simp [intOf]; done) | (simp [intOf]; omega)
      · obtain rfl : k = es.length := by omega
        have HN := Lib.hid (show DRel (P0 ++ ls.flatMap (chgReg regs regs') ++ es.flatMap (chgEv evs evs')) (w.heap.size + 2) W0 (.slice av an ac) wr from by
          have := hR.1
          rwa [List.take_length] at this)
        clear hR
        go_wp2_with fail
        go_meet
        exact HN.out
  case rest =>
  clear HL0
  have hbc := hcut.below
  obtain ⟨av, an, ac, rfl⟩ := hcut.slice
  have HD := Lib.hid hcut
  clear hcut
  go_wp2_with fail
  refine (HKC.out _ (HB.out _ hbc)).mono ?_
  rintro e w3 ⟨kv, rfl, ho, hb3⟩
  obtain ⟨ka, kc, rfl, hKA⟩ := KeysAt.ofInts (v := .slice av an ac) ho HD.out.lt
  have HL0 := Lib.hid (show LRel (P0 ++ ls.flatMap (chgReg regs regs') ++ es.flatMap (chgEv evs evs')) (chgCm cms cms') (Value.int .i64) cs ka (w.heap.size + 2) W0 0 (.slice av an ac) w3 from ⟨by simpa using HD.out.later hBW hb3, hKA⟩)
  clear ho hb3 hKA HD hbc
  go_upto_block 4 with fail
  go_cut [8] (fun s9 wx => DRel (P0 ++ ls.flatMap (chgReg regs regs') ++ es.flatMap (chgEv evs evs') ++ cs.flatMap (chgCm cms cms')) (w.heap.size + 2) W0 s9 wx)
  case first =>
    go_wp2_with fail
    go_loopw [8, 137] (fun s9 i wr => ∃ k : Nat, k ≤ cs.length ∧ i = .int .i64 k ∧ LRel (P0 ++ ls.flatMap (chgReg regs regs') ++ es.flatMap (chgEv evs evs')) (chgCm cms cms') (Value.int .i64) cs ka (w.heap.size + 2) W0 k s9 wr) (fun _ i _ => cs.length - (intOf i).toNat)
    case atStart => exact ⟨0, by omega, rfl, HL0.out⟩
    case round =>
      clear HL0
      obtain ⟨k, hk, rfl, hR⟩ := hrel
      have hbr := hR.1.below
      obtain ⟨av, an, ac, rfl⟩ := hR.1.slice
      by_cases hlt : k < cs.length
      · obtain ⟨kb, ko, kn, rfl, hkl, hlk, hkc, _⟩ := hR.2.1.at_ hlt
        have q0 := hkc 0 _ rfl
        have HPU := Lib.hid (fun (w1 : World) (hb : Below wr.heap.size wr w1) => LRel.push hR hlk hBW hb (fun x => chgCm_le _ _ _))
        have HSK := Lib.hid (fun (w1 : World) (hb : Below wr.heap.size wr w1) (hf : chgCm cms cms' kn = []) => LRel.skip hR hlk hBW hb hf)
        obtain ⟨x, t1, hv1, hx1, ht1⟩ := cm_val (cms.find? (cmIs kn))
        obtain ⟨y, t2, hv2, hx2, ht2⟩ := cm_val (cms'.find? (cmIs kn))
        have HCH := Lib.hid (show chgCm cms cms' kn = if (t1 != t2 || !cmEq x y) = true then [⟨4, kn, ⟨#[]⟩, !t1, !t2, zeroHd, zeroHd, zeroReg, zeroReg, zeroEvC, zeroEvC, x, y⟩] else [] by rw [hx1, hx2, ht1, ht2]; rfl)
        have HF1 := Lib.hid (fun (w1 : World) (h : Below (w.heap.size + 2) W0 w1) => (show Calls Tryz.prog 52 #[.agg #[Value.string title, .string lang, .int .u8 rate, .bool drop, .int .i64 last, .slice ra regs.length rc, .slice ea evs.length ec, .slice ca cms.length cc], .int .i64 kn] w1 (fun e w' => e = .returned (.tuple #[.agg x.enc.toArray, .bool t1]) ∧ Below w1.heap.size w1 w') from (HMA.out kn w1 (HB.out _ h)).mono (fun e w' p => ⟨by rw [← hv1]; exact p.1, p.2⟩)))
        have HF2 := Lib.hid (fun (w1 : World) (h : Below (w.heap.size + 2) W0 w1) => (show Calls Tryz.prog 52 #[.agg #[Value.string title', .string lang', .int .u8 rate', .bool drop', .int .i64 last', .slice ra' regs'.length rc', .slice ea' evs'.length ec', .slice ca' cms'.length cc'], .int .i64 kn] w1 (fun e w' => e = .returned (.tuple #[.agg y.enc.toArray, .bool t2]) ∧ Below w1.heap.size w1 w') from (HMB.out kn w1 (HB.out _ h)).mono (fun e w' p => ⟨by rw [← hv2]; exact p.1, p.2⟩)))
        clear hv1 hv2 hx1 hx2 ht1 ht2
        have hpr1 := flat_le (chgReg regs regs') (fun x => chgReg_le _ _ _) ls
        have hpr2 := flat_le (chgEv evs evs') (fun x => chgEv_le _ _ _) es
        have hpre : (P0 ++ ls.flatMap (chgReg regs regs') ++ es.flatMap (chgEv evs evs')).length ≤ 16000001 := by rw [List.length_append, List.length_append]; omega
        simp only [Nat.add_zero, Nat.mul_one] at q0 HPU
        have HROW := Lib.hid hR.1.lt
        have hbs := HLT.out _ hbr
        clear hR hkc hlk
        have r1 := fun wx => run_cmNe x y wx
        generalize hEQ : cmEq x y = EQ at HCH r1
        clear hEQ
        obtain ⟨xid, xev, xfrm, xtil, xau, xtx, xdn, xlo⟩ := x
        obtain ⟨yid, yev, yfrm, ytil, yau, ytx, ydn, ylo⟩ := y
        simp only [Cm.enc] at r1 HF1 HF2
        go_upto_block 5 with fail
        go_cut [8] (fun s9 wx => LRel (P0 ++ ls.flatMap (chgReg regs regs') ++ es.flatMap (chgEv evs evs')) (chgCm cms cms') (Value.int .i64) cs (some ⟨kb, ko, none⟩) (w.heap.size + 2) W0 (k + 1) s9 wx)
        case first =>
          go_wp2_with fail
          refine (HF1.out _ hbr).mono ?_
          rintro e w3 ⟨rfl, hb3⟩
          have hc3 := HT0.out _ _ hbr hb3
          have ha3 : ∀ o, Below (w.heap.size + 2) W0 (w3.alloc o) := fun o => hc3.alloc (HLT.out _ hc3) o
          have H3 := Lib.hid hb3
          clear hb3 HF1 q0
          go_wp2_with fail
          refine (HF2.out _ (ha3 _)).mono ?_
          rintro e w4 ⟨rfl, hb4⟩
          have hc4 := HT0.out _ _ (ha3 _) hb4
          have hs4 : w3.heap.size + 1 ≤ w4.heap.size := by have := hb4.size; simpa using this
          have hk4 : w4.heap[w3.heap.size]? = some (.cells #[.int .i64 xid, .int .i64 xev, .int .i64 xfrm, .int .i64 xtil, .string xau, .string xtx, .bool xdn, .bool xlo] 52 (0, 0)) := (hb4.block _ (by simp)).trans (heap_alloc_last w3 _)
          have b4 : ∀ (o : Obj) (j : Nat), (w4.alloc o).cell? ⟨w3.heap.size, j, none⟩ = _ := fun o j => cell_of_row _ _ j _ 52 (0, 0) (alloc_keep hk4)
          have HBX := Lib.hid (fun (o : Obj) => (show Below wr.heap.size wr (w4.alloc o) from ((H3.out.alloc H3.out.size _).trans (hb4.mono (by have := H3.out.size; simp; omega))).alloc (by have := H3.out.size; omega) o))
          have HSZA := Lib.hid (fun (o : Obj) => (World.size_alloc w4 o).symm)
          have HBS := Lib.hid (HLT.out _ hc4)
          clear hb4 HF2 hk4 H3 hc3 ha3
          rcases Classical.em (t1 = t2) with hne | hne
          case' inl =>
            subst hne
            cases EQ
          case inl.true =>
            have HS := Lib.hid (fun o => HSK.out _ (HBX.out o) (by rw [HCH.out]; simp))
            clear HSK HCH HPU
            go_wp2_with fail
            go_meet
            exact HS.out _
          case inl.false =>
            have HC2 := Lib.hid (show chgCm cms cms' kn = [⟨4, kn, ⟨#[]⟩, !t1, !t1, zeroHd, zeroHd, zeroReg, zeroReg, zeroEvC, zeroEvC, ⟨xid, xev, xfrm, xtil, xau, xtx, xdn, xlo⟩, ⟨yid, yev, yfrm, ytil, yau, ytx, ydn, ylo⟩⟩] by rw [HCH.out]; simp)
            obtain ⟨zn, zf, hzn, hO, hP⟩ := HPU.out _ (HBX.out (.cells #[.int .i64 yid, .int .i64 yev, .int .i64 yfrm, .int .i64 ytil, .string yau, .string ytx, .bool ydn, .bool ylo] 52))
            have HP := Lib.hid hP
            clear hP HPU HCH HSK
            go_wp2_with (at_builtin; refine wpList_append_at _ _ rfl (.tmp 161) (.tmp 170) 29 rfl (w.heap.size + 2) 54 j0 _ 59 568 Tryz.underlying29 JI.out J0.out J1.out J2.out J3.out (by decide) _ _ _ rfl hO _ rfl (World.size_alloc _ _).symm ?hszq5 ?h1q5 ?h63q5 ?hbq5 ?hbaseq5 ?_)
            try (case hszq5 => rfl)
            case h1q5 => first | exact fun u hu => Chg.one (⟨4, kn, ⟨#[]⟩, !t1, !t1, zeroHd, zeroHd, zeroReg, zeroReg, zeroEv, zeroEv, ⟨xid, xev, xfrm, xtil, xau, xtx, xdn, xlo⟩, ⟨yid, yev, yfrm, ytil, yau, ytx, ydn, ylo⟩⟩ : Chg) u hu | ((repeat' apply And.intro) <;> rfl)
            case h63q5 => unfold maxLen; omega
            case hbq5 => omega
            try (case hbaseq5 => first | exact HBS.out | (have := HBS.out; first | omega | (simp; omega)))
            intro v' w2' hown hgrow hat
            have R := Lib.hid (HP.out (⟨4, kn, ⟨#[]⟩, !t1, !t1, zeroHd, zeroHd, zeroReg, zeroReg, zeroEv, zeroEv, ⟨xid, xev, xfrm, xtil, xau, xtx, xdn, xlo⟩, ⟨yid, yev, yfrm, ytil, yau, ytx, ydn, ylo⟩⟩ : Chg) _ v' w2' HC2.out rfl hown hgrow (by first | exact hat | (rw [World.size_alloc]; exact hat)) (flat_chg _ rfl rfl _).1 (fun b hu => ((flat_chg _ rfl rfl wr).2 b hu).elim))
            clear hown hgrow hat HP hO HC2
            go_wp2_with fail
            go_meet
            exact R.out
          case inr =>
            have HC2 := Lib.hid (show chgCm cms cms' kn = [⟨4, kn, ⟨#[]⟩, !t1, !t2, zeroHd, zeroHd, zeroReg, zeroReg, zeroEvC, zeroEvC, ⟨xid, xev, xfrm, xtil, xau, xtx, xdn, xlo⟩, ⟨yid, yev, yfrm, ytil, yau, ytx, ydn, ylo⟩⟩] by rw [HCH.out]; simp [hne])
            obtain ⟨zn, zf, hzn, hO, hP⟩ := HPU.out _ (HBX.out (.cells #[.int .i64 yid, .int .i64 yev, .int .i64 yfrm, .int .i64 ytil, .string yau, .string ytx, .bool ydn, .bool ylo] 52))
            have HP := Lib.hid hP
            clear hP HPU HCH HSK
            go_wp2_with (at_builtin; refine wpList_append_at _ _ rfl (.tmp 161) (.tmp 170) 29 rfl (w.heap.size + 2) 54 j0 _ 59 568 Tryz.underlying29 JI.out J0.out J1.out J2.out J3.out (by decide) _ _ _ rfl hO _ rfl (World.size_alloc _ _).symm ?hszq6 ?h1q6 ?h63q6 ?hbq6 ?hbaseq6 ?_)
            try (case hszq6 => rfl)
            case h1q6 => first | exact fun u hu => Chg.one (⟨4, kn, ⟨#[]⟩, !t1, !t2, zeroHd, zeroHd, zeroReg, zeroReg, zeroEv, zeroEv, ⟨xid, xev, xfrm, xtil, xau, xtx, xdn, xlo⟩, ⟨yid, yev, yfrm, ytil, yau, ytx, ydn, ylo⟩⟩ : Chg) u hu | ((repeat' apply And.intro) <;> rfl)
            case h63q6 => unfold maxLen; omega
            case hbq6 => omega
            try (case hbaseq6 => first | exact HBS.out | (have := HBS.out; first | omega | (simp; omega)))
            intro v' w2' hown hgrow hat
            have R := Lib.hid (HP.out (⟨4, kn, ⟨#[]⟩, !t1, !t2, zeroHd, zeroHd, zeroReg, zeroReg, zeroEv, zeroEv, ⟨xid, xev, xfrm, xtil, xau, xtx, xdn, xlo⟩, ⟨yid, yev, yfrm, ytil, yau, ytx, ydn, ylo⟩⟩ : Chg) _ v' w2' HC2.out rfl hown hgrow (by first | exact hat | (rw [World.size_alloc]; exact hat)) (flat_chg _ rfl rfl _).1 (fun b hu => ((flat_chg _ rfl rfl wr).2 b hu).elim))
            clear hown hgrow hat HP hO HC2
            go_wp2_with fail
            go_meet
            exact R.out
        case rest =>
          clear HPU HSK HCH HF1 HF2 q0
          obtain ⟨av', an', ac', rfl⟩ := hcut.1.slice
          have HC := Lib.hid hcut
          clear hcut
          go_wp2_with fail
          go_roundw
          case rel => exact ⟨k + 1, by omega, by go_num, HC.out⟩
          all_goals first | (simp [intOf]; done) | (simp [intOf]; omega)
      · obtain rfl : k = cs.length := by omega
        have HN := Lib.hid (show DRel (P0 ++ ls.flatMap (chgReg regs regs') ++ es.flatMap (chgEv evs evs') ++ cs.flatMap (chgCm cms cms')) (w.heap.size + 2) W0 (.slice av an ac) wr from by
          have := hR.1
          rwa [List.take_length] at this)
        clear hR
        go_wp2_with fail
        go_meet
        exact HN.out
  case rest =>
  clear HL0
  have hbc := hcut.below
  obtain ⟨av, an, ac, rfl⟩ := hcut.slice
  rw [HCH.out] at hcut
  have HFIN := Lib.hid (HQ.out _ _ _ hBW HWW.out hcut)
  clear hcut
  go_wp2_with fail
  exact HFIN.out
theorem refDiff_calls (a b : Doc) (w : World) (hE : Env w) (ha : a.lies w) (hb : b.lies w) (hfa : a.fits) (hfb : b.fits) : Calls Tryz.prog 12 #[.agg a.enc.toArray, .agg b.enc.toArray] w (DiffPost a b w) := by
  by_cases h0 : docErr a = 0
  · by_cases h1 : docErr b = 0
    · exact refDiff_ok a b w hE ha hb hfa hfb h0 h1
    · exact refDiff_errB a b w hE ha hb hfa hfb h0 h1
  · exact refDiff_errA a b w hE ha hb hfa hfb h0
end Go.Proofs.YtnlnmbcaongehaaGreatDoor
