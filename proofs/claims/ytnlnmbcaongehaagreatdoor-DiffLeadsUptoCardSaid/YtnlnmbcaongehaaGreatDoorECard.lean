/- DiffLeads: the difference of two documents leads from the one to the other, its inverse back. Conditions: the arguments hold together at most 1048576 values and letters (the second form); the library's tables are as their text lays them (the card ties them). -/
import Derived.Test.YtnlnmbcaongehaaGreatDoorCards
import Derived.Test.YtnlnmbcaongehaaGreatDoorTie
import Derived.Test.YtnlnmbcaongehaaGreatDoorE04
import Derived.Test.YtnlnmbcaongehaaGreatDoorE05
import Derived.Test.YtnlnmbcaongehaaGreatDoorE06
import Derived.Test.YtnlnmbcaongehaaGreatDoorE01
set_option linter.unusedVariables false
set_option linter.unusedSimpArgs false
namespace Go.Proofs.YtnlnmbcaongehaaGreatDoor
open Go.RowKit
theorem diffForm_ok {a b : Doc} {w : World} (h0 : docErr a = 0) (h1 : docErr b = 0) (e : Ending) (w' : World) (h : DiffPost a b w e w') : ∃ (A : Option Addr) (xs : List Chg) (c : Nat), e = .returned (.tuple #[.slice A xs.length c, .int .i64 0]) ∧ ChgAt w' A xs ∧ xs.map Chg.c = chgs a b ∧ Below w.heap.size w w' := by
  obtain ⟨A, xs, c, rfl, h2, h3, h4⟩ := DiffForm.of e w' h
  have e0 : diffErr a b = 0 := by
    unfold diffErr
    rw [if_neg (by simp [h0]), h1]
  have e1 : diffList a b = chgs a b := by
    unfold diffList
    rw [if_neg (by simp [h0]), if_neg (by simp [h1])]
  exact ⟨A, xs, c, by rw [e0], h2, h3.trans e1, h4⟩
/-- What Patch hands back where there is no error: a document in memory of the call's own. -/
def PatchOwn (C : DocC) (w : World) (e : Ending) (w' : World) : Prop :=
  ∃ d : Doc, e = .returned (.tuple #[.agg d.enc.toArray, .int .i64 0]) ∧ d.c = C ∧ d.lies w' ∧ d.fits ∧ (∀ b, d.uses b → w.heap.size ≤ b) ∧ Below w.heap.size w w'
theorem patchOwn_calls (d : Doc) (C : DocC) (a : Option Addr) (cap : Nat) (xs : List Chg) (w : World) (hE : Env w) (hd : d.lies w) (hf : d.fits) (h0 : docErr d = 0) (hl : xs.length ≤ 2000) (hx : ChgAt w a xs) (hc : ∀ x ∈ xs, x.c.full) (hz : patchErr d.c (xs.map Chg.c) = 0) (hC : patchDoc d.c (xs.map Chg.c) = C) :
    Calls Tryz.prog 14 #[.agg d.enc.toArray, .slice a xs.length cap] w (PatchOwn C w) := by
  have hlen := doc_lens h0
  have hok := docOk h0
  have hfc : d.c.fits 400 := Doc.fits.c hf (by omega) (by omega) (by omega)
  refine (patch_calls (PSt d.c (xs.map Chg.c) 400) (fun err => patchErr d.c (xs.map Chg.c) = err) d a cap xs w hE hd hf h0 hx (by omega) (fun d' h => ⟨Nat.zero_le _, by rw [h]; exact hok, by rw [h]; exact hfc, by rw [h, List.drop_zero]⟩) (fun k d' h => h.2.2.1.doc (by have := h.1; rw [List.length_map] at this; omega)) (fun d' h _ => bad_fin h0 h) (fun k x d' g w' hk hS hD hxl => ?_)).mono fun e w' p => ?_
  · have hkc : (xs.map Chg.c)[k]? = some x.c := by rw [List.getElem?_map, hk]; rfl
    have hkl := (List.getElem?_eq_some_iff.1 hk).1
    have hfx := hc x (List.mem_of_getElem? hk)
    refine (apply_calls d' g x (400 + k) w' hS.2.1 hS.2.2.1 (by omega) hfx hD hxl).mono fun e w'' p => ?_
    obtain ⟨err, d2, rfl, p1, p2, p3, p4⟩ := p
    have := hS.step (d2 := d2) hkc hfx p4.1 p4.2
    exact ⟨err, d2, rfl, p1, p2, p3, this.1, fun hne => bad_of h0 (this.2 hne) hne⟩
  · rcases p with ⟨err, hb, hne, rfl, hbw⟩ | ⟨d', hfin, hz', rfl, hl', hu, hbw⟩
    · exact absurd (hb.symm.trans hz) hne
    · have hlen2 : xs.length = (xs.map Chg.c).length := by rw [List.length_map]
      have hf' := hfin
      rw [hlen2] at hf'
      refine ⟨d', rfl, ?_, hl', hfin.2.2.1.doc (by omega), hu, hbw⟩
      rw [← hC]
      unfold patchDoc
      rw [if_pos hz, hf'.fin]
def InvTo (L : List ChgC) (w : World) (e : Ending) (w' : World) : Prop :=
  ∃ (A : Option Addr) (ys : List Chg) (c : Nat), e = .returned (.slice A ys.length c) ∧ ChgAt w' A ys ∧ ys.map Chg.c = L ∧ Below w.heap.size w w'
theorem invL_len (l : List ChgC) : (invL l).length = l.length := by
  unfold invL
  rw [List.length_reverse, List.length_map]
theorem inv_full {a b : Doc} (hfa : a.fits) (hfb : b.fits) {c : ChgC} (hc : c ∈ invL (chgs a b)) : c.full := by
  obtain ⟨x, hx, rfl⟩ := mem_invL.1 hc
  exact (chgs_both hfa hfb hx).inv.1
theorem chg_fits {a b : Doc} (hfa : a.fits) (hfb : b.fits) {xs : List Chg} (h : xs.map Chg.c = chgs a b) : ∀ x ∈ xs, x.fits := fun x hx => by
  obtain ⟨h1, h2⟩ := chgs_ok hfa hfb x.c (h ▸ List.mem_map.2 ⟨x, hx, rfl⟩)
  exact ⟨evc_fits (x := x.oe) rfl h1, evc_fits (x := x.ne) rfl h2⟩
theorem same_fits (d d' : Doc) (w : World) (hd : d.lies w) (hd' : d'.lies w) (hf : d.fits) (hf' : d'.fits) {r : Bool} (hr : docEq d d' = r) : Calls Tryz.prog 18 #[.agg d.enc.toArray, .agg d'.enc.toArray] w fun e w' => e = .returned (.bool r) ∧ Below w.heap.size w w' := by
  rw [← hr]
  exact docSame_calls d d' w hd hd' (doc_rows hf) (doc_rows hf') hf.2.2.2.2.2.2.1 hf'.2.2.2.2.2.2.1 hf.2.2.2.2.2.2.2.2.1 hf'.2.2.2.2.2.2.2.2.1 hf.2.2.2.2.2.2.2.2.2.2 hf'.2.2.2.2.2.2.2.2.2.2
theorem len_docEq {a b : Doc} (h0 : docErr a = 0) (h1 : docErr b = 0) {xs : List Chg} (h : xs.map Chg.c = chgs a b) : (xs.length = 0 ∧ docEq a b = true) ∨ (xs.length ≠ 0 ∧ docEq a b = false) := by
  have hn := chgs_none (docOk h0) (docOk h1)
  by_cases e : chgs a b = []
  · rw [e] at h
    exact .inl ⟨by rw [List.map_eq_nil_iff.1 h]; rfl, (docEq_iff _ _).2 (hn.1 e)⟩
  · refine .inr ⟨fun e2 => e ?_, ?_⟩
    · rw [← h, List.eq_nil_of_length_eq_zero e2]
      rfl
    · cases e3 : docEq a b
      · rfl
      · exact absurd (hn.2 ((docEq_iff _ _).1 e3)) e
set_option maxRecDepth 100000 in
set_option maxHeartbeats 3200000 in
theorem lawLeads_err (Aw : World → Prop) (HAW : ∀ w, Aw w → Calls Tryz.prog 10 #[] w (fun e w' => e = .returned (.bool true) ∧ Below w.heap.size w w')) (hAB : ∀ w w', Aw w → Below w.heap.size w w' → Aw w') (a b : Doc) (w : World) (hE : Env w) (hA : Aw w) (ha : a.lies w) (hb : b.lies w) (hfa : a.fits) (hfb : b.fits) (h0 : diffErr a b ≠ 0) :
    Calls Tryz.prog 5 #[.agg a.enc.toArray, .agg b.enc.toArray] w fun e w' => e = .returned (.bool true) ∧ Below w.heap.size w w' := by
  generalize hQ : (fun (e : Ending) (w' : World) => e = .returned (.bool true) ∧ Below w.heap.size w w') = Q
  have HQ := Lib.hid (fun w' (hb : Below w.heap.size w w') => show Q (.returned (.bool true)) w' from hQ ▸ ⟨rfl, hb⟩)
  clear hQ
  have HA := Lib.hid (fun (w1 : World) (h : Below w.heap.size w w1) => HAW w1 (hAB w w1 hA h))
  have HD := Lib.hid (fun (w1 : World) (h : Below w.heap.size w w1) => (diff_calls a b w1 (hE.below h (Nat.le_refl _)) (Doc.later ha h) (Doc.later hb h) hfa hfb).mono DiffForm.of)
  unfold DiffForm at HD
  have hl : diffList a b = [] := by
    unfold diffErr at h0
    unfold diffList
    by_cases h1 : docErr a ≠ 0
    · rw [if_pos h1]
    · rw [if_neg h1] at h0 ⊢
      rw [if_pos h0]
  generalize diffErr a b = ERR at *
  rw [hl] at HD
  have hne : (ERR != 0) = true := by simpa using h0
  generalize hds : a.enc.toArray = ds at *
  generalize hqs : b.enc.toArray = qs at *
  have HB := Lib.hid (fun (w1 : World) (h : Below (w.heap.size + 2) ((w.alloc (.cells ds 27)).alloc (.cells qs 27)) w1) => box2_below h)
  obtain ⟨title, lang, rate, drop, last, ra, rc, regs, ea, ec, evs, ca, cc, cms⟩ := a
  obtain ⟨title', lang', rate', drop', last', ra', rc', regs', ea', ec', evs', ca', cc', cms'⟩ := b
  simp only [Doc.enc] at hds hqs
  have f0 := box2_fst w ds qs 27 27 0 (.string title) (by rw [← hds]; rfl)
  have f1 := box2_fst w ds qs 27 27 1 (.string lang) (by rw [← hds]; rfl)
  have f2 := box2_fst w ds qs 27 27 2 (.int .u8 rate) (by rw [← hds]; rfl)
  have f3 := box2_fst w ds qs 27 27 3 (.bool drop) (by rw [← hds]; rfl)
  have f4 := box2_fst w ds qs 27 27 4 (.int .i64 last) (by rw [← hds]; rfl)
  have f5 := box2_fst w ds qs 27 27 5 (.slice ra regs.length rc) (by rw [← hds]; rfl)
  have f6 := box2_fst w ds qs 27 27 6 (.slice ea evs.length ec) (by rw [← hds]; rfl)
  have f7 := box2_fst w ds qs 27 27 7 (.slice ca cms.length cc) (by rw [← hds]; rfl)
  have g0 := box2_snd w ds qs 27 27 0 (.string title') (by rw [← hqs]; rfl)
  have g1 := box2_snd w ds qs 27 27 1 (.string lang') (by rw [← hqs]; rfl)
  have g2 := box2_snd w ds qs 27 27 2 (.int .u8 rate') (by rw [← hqs]; rfl)
  have g3 := box2_snd w ds qs 27 27 3 (.bool drop') (by rw [← hqs]; rfl)
  have g4 := box2_snd w ds qs 27 27 4 (.int .i64 last') (by rw [← hqs]; rfl)
  have g5 := box2_snd w ds qs 27 27 5 (.slice ra' regs'.length rc') (by rw [← hqs]; rfl)
  have g6 := box2_snd w ds qs 27 27 6 (.slice ea' evs'.length ec') (by rw [← hqs]; rfl)
  have g7 := box2_snd w ds qs 27 27 7 (.slice ca' cms'.length cc') (by rw [← hqs]; rfl)
  have hb0 : Below (w.heap.size + 2) ((w.alloc (.cells ds 27)).alloc (.cells qs 27)) ((w.alloc (.cells ds 27)).alloc (.cells qs 27)) := Below.refl _ _
  have hsz : ((w.alloc (.cells ds 27)).alloc (.cells qs 27)).heap.size = w.heap.size + 2 := by simp
  generalize hW0 : (w.alloc (.cells ds 27)).alloc (.cells qs 27) = W0 at *
  have HW0 := Lib.hid hW0
  have HSZ := Lib.hid hsz
  have HT0 := Lib.hid (fun (w2 w3 : World) (h : Below (w.heap.size + 2) W0 w2) (h3 : Below w2.heap.size w2 w3) => (h.trans (h3.mono (by have := h.size; rw [HSZ.out] at this; exact this)) : Below (w.heap.size + 2) W0 w3))
  clear hW0 hsz ha hb hE hA hfa hfb HAW hAB hl h0
  go_enter Tryz.func5, Tryz.ntmps5
  subst hds
  subst hqs
  go_wp2_with fail
  rw [HW0.out]
  refine (HA.out _ (HB.out _ hb0)).mono ?_
  rintro e w1 ⟨rfl, hb1⟩
  have hc1 := HT0.out _ _ hb0 hb1
  clear hb1 HA
  go_wp2_with fail
  refine (HD.out _ (HB.out _ hc1)).mono ?_
  rintro e w2 ⟨A, xs, c, rfl, hx, hxc, hb2⟩
  have hc2 := HT0.out _ _ hc1 hb2
  obtain rfl := List.map_eq_nil_iff.1 hxc
  clear hb2 hx hxc HD
  simp only [List.length_nil]
  go_wp2_with fail
  exact HQ.out _ (HB.out _ hc2)
set_option maxRecDepth 100000 in
set_option maxHeartbeats 6400000 in
theorem lawLeads_ok (Aw : World → Prop) (HAW : ∀ w, Aw w → Calls Tryz.prog 10 #[] w (fun e w' => e = .returned (.bool true) ∧ Below w.heap.size w w')) (hAB : ∀ w w', Aw w → Below w.heap.size w w' → Aw w') (a b : Doc) (w : World) (hE : Env w) (hA : Aw w) (ha : a.lies w) (hb : b.lies w) (hfa : a.fits) (hfb : b.fits) (h0 : docErr a = 0) (h1 : docErr b = 0) :
    Calls Tryz.prog 5 #[.agg a.enc.toArray, .agg b.enc.toArray] w fun e w' => e = .returned (.bool true) ∧ Below w.heap.size w w' := by
  generalize hQ : (fun (e : Ending) (w' : World) => e = .returned (.bool true) ∧ Below w.heap.size w w') = Q
  have HQ := Lib.hid (fun w' (hb : Below w.heap.size w w') => show Q (.returned (.bool true)) w' from hQ ▸ ⟨rfl, hb⟩)
  clear hQ
  have HA := Lib.hid (fun (w1 : World) (h : Below w.heap.size w w1) => HAW w1 (hAB w w1 hA h))
  have HD := Lib.hid (fun (w1 : World) (h : Below w.heap.size w w1) => (diff_calls a b w1 (hE.below h (Nat.le_refl _)) (Doc.later ha h) (Doc.later hb h) hfa hfb).mono (diffForm_ok h0 h1))
  have hsm := chgs_small h0 h1
  have HP1 := Lib.hid (fun (A : Option Addr) (c : Nat) (xs : List Chg) (w1 : World) (h : Below w.heap.size w w1) (hx : ChgAt w1 A xs) (hc : xs.map Chg.c = chgs a b) => (show Calls Tryz.prog 14 #[.agg a.enc.toArray, .slice A xs.length c] w1 (PatchOwn b.c w1) from
    patchOwn_calls a b.c A c xs w1 (hE.below h (Nat.le_refl _)) (Doc.later ha h) hfa h0 (by rw [← List.length_map (f := Chg.c), hc]; exact hsm) hx (fun x hx => (chgs_both hfa hfb (hc ▸ List.mem_map.2 ⟨x, hx, rfl⟩)).1) (by rw [hc]; exact (leads_forth h0 h1).1) (by rw [hc]; exact (leads_forth h0 h1).2)))
  have HI := Lib.hid (fun (A : Option Addr) (c : Nat) (xs : List Chg) (w1 : World) (h : Below w.heap.size w w1) (hx : ChgAt w1 A xs) (hc : xs.map Chg.c = chgs a b) => (show Calls Tryz.prog 17 #[.slice A xs.length c] w1 (InvTo (invL (chgs a b)) w1) from
    (invert_calls A c xs w1 hx (chg_fits hfa hfb hc) (by rw [← List.length_map (f := Chg.c), hc]; omega)).mono fun e w' p => by rw [← hc]; exact p))
  have HP2 := Lib.hid (fun (A : Option Addr) (c : Nat) (xs : List Chg) (w1 : World) (h : Below w.heap.size w w1) (hx : ChgAt w1 A xs) (hc : xs.map Chg.c = invL (chgs a b)) => (show Calls Tryz.prog 14 #[.agg b.enc.toArray, .slice A xs.length c] w1 (PatchOwn a.c w1) from
    patchOwn_calls b a.c A c xs w1 (hE.below h (Nat.le_refl _)) (Doc.later hb h) hfb h1 (by rw [← List.length_map (f := Chg.c), hc, invL_len]; exact hsm) hx (fun x hx => inv_full hfa hfb (hc ▸ List.mem_map.2 ⟨x, hx, rfl⟩)) (by rw [hc]; exact (leads_back h0 h1).1) (by rw [hc]; exact (leads_back h0 h1).2)))
  have HS1 := Lib.hid (fun (d : Doc) (w1 : World) (h : Below w.heap.size w w1) (hl : d.lies w1) (hf : d.fits) (hc : d.c = b.c) => (show Calls Tryz.prog 18 #[.agg d.enc.toArray, .agg b.enc.toArray] w1 (fun e w' => e = .returned (.bool true) ∧ Below w1.heap.size w1 w') from
    same_fits d b w1 hl (Doc.later hb h) hf hfb ((docEq_iff _ _).2 hc)))
  have HS2 := Lib.hid (fun (d : Doc) (w1 : World) (h : Below w.heap.size w w1) (hl : d.lies w1) (hf : d.fits) (hc : d.c = a.c) => (show Calls Tryz.prog 18 #[.agg d.enc.toArray, .agg a.enc.toArray] w1 (fun e w' => e = .returned (.bool true) ∧ Below w1.heap.size w1 w') from
    same_fits d a w1 hl (Doc.later ha h) hf hfa ((docEq_iff _ _).2 hc)))
  have HS3 := Lib.hid (fun (w1 : World) (h : Below w.heap.size w w1) => (show Calls Tryz.prog 18 #[.agg a.enc.toArray, .agg b.enc.toArray] w1 (fun e w' => e = .returned (.bool (docEq a b)) ∧ Below w1.heap.size w1 w') from
    same_fits a b w1 (Doc.later ha h) (Doc.later hb h) hfa hfb rfl))
  have HLT := Lib.hid (fun (xs : List Chg) (hc : xs.map Chg.c = chgs a b) => len_docEq (a := a) (b := b) h0 h1 hc)
  clear hsm
  generalize invL (chgs a b) = IL at *
  generalize chgs a b = L at *
  generalize docEq a b = T at *
  generalize a.c = CA at *
  generalize b.c = CB at *
  generalize hds : a.enc.toArray = ds at *
  generalize hqs : b.enc.toArray = qs at *
  have HB := Lib.hid (fun (w1 : World) (h : Below (w.heap.size + 2) ((w.alloc (.cells ds 27)).alloc (.cells qs 27)) w1) => box2_below h)
  obtain ⟨title, lang, rate, drop, last, ra, rc, regs, ea, ec, evs, ca, cc, cms⟩ := a
  obtain ⟨title', lang', rate', drop', last', ra', rc', regs', ea', ec', evs', ca', cc', cms'⟩ := b
  simp only [Doc.enc] at hds hqs
  have f0 := box2_fst w ds qs 27 27 0 (.string title) (by rw [← hds]; rfl)
  have f1 := box2_fst w ds qs 27 27 1 (.string lang) (by rw [← hds]; rfl)
  have f2 := box2_fst w ds qs 27 27 2 (.int .u8 rate) (by rw [← hds]; rfl)
  have f3 := box2_fst w ds qs 27 27 3 (.bool drop) (by rw [← hds]; rfl)
  have f4 := box2_fst w ds qs 27 27 4 (.int .i64 last) (by rw [← hds]; rfl)
  have f5 := box2_fst w ds qs 27 27 5 (.slice ra regs.length rc) (by rw [← hds]; rfl)
  have f6 := box2_fst w ds qs 27 27 6 (.slice ea evs.length ec) (by rw [← hds]; rfl)
  have f7 := box2_fst w ds qs 27 27 7 (.slice ca cms.length cc) (by rw [← hds]; rfl)
  have g0 := box2_snd w ds qs 27 27 0 (.string title') (by rw [← hqs]; rfl)
  have g1 := box2_snd w ds qs 27 27 1 (.string lang') (by rw [← hqs]; rfl)
  have g2 := box2_snd w ds qs 27 27 2 (.int .u8 rate') (by rw [← hqs]; rfl)
  have g3 := box2_snd w ds qs 27 27 3 (.bool drop') (by rw [← hqs]; rfl)
  have g4 := box2_snd w ds qs 27 27 4 (.int .i64 last') (by rw [← hqs]; rfl)
  have g5 := box2_snd w ds qs 27 27 5 (.slice ra' regs'.length rc') (by rw [← hqs]; rfl)
  have g6 := box2_snd w ds qs 27 27 6 (.slice ea' evs'.length ec') (by rw [← hqs]; rfl)
  have g7 := box2_snd w ds qs 27 27 7 (.slice ca' cms'.length cc') (by rw [← hqs]; rfl)
  have hb0 : Below (w.heap.size + 2) ((w.alloc (.cells ds 27)).alloc (.cells qs 27)) ((w.alloc (.cells ds 27)).alloc (.cells qs 27)) := Below.refl _ _
  have hsz : ((w.alloc (.cells ds 27)).alloc (.cells qs 27)).heap.size = w.heap.size + 2 := by simp
  generalize hW0 : (w.alloc (.cells ds 27)).alloc (.cells qs 27) = W0 at *
  have HW0 := Lib.hid hW0
  have HSZ := Lib.hid hsz
  have HT0 := Lib.hid (fun (w2 w3 : World) (h : Below (w.heap.size + 2) W0 w2) (h3 : Below w2.heap.size w2 w3) => (h.trans (h3.mono (by have := h.size; rw [HSZ.out] at this; exact this)) : Below (w.heap.size + 2) W0 w3))
  clear hW0 hsz ha hb hE hA hfa hfb HAW hAB h0 h1
  go_enter Tryz.func5, Tryz.ntmps5
  subst hds
  subst hqs
  go_wp2_with fail
  rw [HW0.out]
  refine (HA.out _ (HB.out _ hb0)).mono ?_
  rintro e w1 ⟨rfl, hb1⟩
  have hc1 := HT0.out _ _ hb0 hb1
  clear hb1 HA
  go_wp2_with fail
  refine (HD.out _ (HB.out _ hc1)).mono ?_
  rintro e w2 ⟨A, xs, c, rfl, hx, hxc, hb2⟩
  have hc2 := HT0.out _ _ hc1 hb2
  have HX := Lib.hid hx
  have HXC := Lib.hid hxc
  have hlt := HLT.out _ hxc
  clear hb2 hx hxc HD hc1 hb0 HLT
  go_upto_region 6 with fail
  go_wp2_with fail
  refine (HP1.out _ _ _ _ (HB.out _ hc2) HX.out HXC.out).mono ?_
  rintro e u2 ⟨d2, rfl, h2c, h2l, h2f, h2u, hb3⟩
  have hx2 : Below w2.heap.size w2 (u2.alloc (.cells d2.enc.toArray 27)) := hb3.alloc hb3.size _
  have hc3 := HT0.out _ _ hc2 (hb3.alloc hb3.size (.cells d2.enc.toArray 27))
  have HK2 := Lib.hid (heap_alloc_last u2 (.cells d2.enc.toArray 27))
  have HG2 := Lib.hid (show u2.heap.size < (u2.alloc (.cells d2.enc.toArray 27)).heap.size by simp)
  have H2 := Lib.hid (And.intro h2c (And.intro (Doc.later h2l ((Below.refl _ _).alloc (Nat.le_refl _) (.cells d2.enc.toArray 27))) h2f))
  clear hb3 hc2 h2c h2l h2f h2u HP1
  obtain ⟨title2, lang2, rate2, drop2, last2, ra2, rc2, regs2, ea2, ec2, evs2, ca2, cc2, cms2⟩ := d2
  simp only [Doc.enc] at hx2 hc3 HK2 HG2 H2 ⊢
  go_upto_region 7 with fail
  generalize u2.alloc (.cells #[.string title2, .string lang2, .int .u8 rate2, .bool drop2, .int .i64 last2, .slice ra2 regs2.length rc2, .slice ea2 evs2.length ec2, .slice ca2 cms2.length cc2] 27) = w3 at *
  rename_i K7 hK7
  have HK7 := Lib.hid hK7
  clear hK7
  have HC3 := Lib.hid (fun (w1 : World) (h : Below w3.heap.size w3 w1) => (hc3.trans (h.mono (by have := hc3.size; rw [HSZ.out] at this; exact this)) : Below (w.heap.size + 2) W0 w1))
  have HT6 := Lib.hid (fun (wa wb : World) (h : Below w3.heap.size w3 wa) (h3 : Below wa.heap.size wa wb) => (h.trans (h3.mono h.size) : Below w3.heap.size w3 wb))
  have HI6 := Lib.hid (fun (w1 : World) (h : Below w3.heap.size w3 w1) (hx : ChgAt w1 A xs) => HI.out A c xs w1 (HB.out _ (HC3.out _ h)) hx HXC.out)
  have HP6 := Lib.hid (fun (A' : Option Addr) (c' : Nat) (ys : List Chg) (w1 : World) (h : Below w3.heap.size w3 w1) (hy : ChgAt w1 A' ys) (hyc : ys.map Chg.c = IL) => HP2.out A' c' ys w1 (HB.out _ (HC3.out _ h)) hy hyc)
  have hs0 : Below w3.heap.size w3 w3.drew := (Below.refl _ _).drew
  have hx0 : Below w2.heap.size w2 w3.drew := hx2.drew
  have HT : ∀ (w5 : World) (g9 : Nat) (d3 : Doc) (A' : Option Addr) (ny c' : Nat), d3.lies w5 → Below w3.heap.size w3 w5 → w5.heap[g9]? = some (.cells d3.enc.toArray 27 (0, 0)) → d3.c = CA → d3.fits → K7 { tmps := #[.agg #[.string title, .string lang, .int .u8 rate, .bool drop, .int .i64 last, .slice ra regs.length rc, .slice ea evs.length ec, .slice ca cms.length cc], .agg #[.string title', .string lang', .int .u8 rate', .bool drop', .int .i64 last', .slice ra' regs'.length rc', .slice ea' evs'.length ec', .slice ca' cms'.length cc'], .pointer (some ⟨w.heap.size, 0, none⟩), .pointer (some ⟨w.heap.size + 1, 0, none⟩), .bool false, .slice A xs.length c, .int .i64 0, .pointer (some ⟨u2.heap.size, 0, none⟩), .int .i64 0, .pointer (some ⟨g9, 0, none⟩), .int .i64 0, .bool true, .bool false, .tuple #[.slice A xs.length c, .int .i64 0], .agg #[.string title, .string lang, .int .u8 rate, .bool drop, .int .i64 last, .slice ra regs.length rc, .slice ea evs.length ec, .slice ca cms.length cc], .agg #[.string title', .string lang', .int .u8 rate', .bool drop', .int .i64 last', .slice ra' regs'.length rc', .slice ea' evs'.length ec', .slice ca' cms'.length cc'], .tuple #[.slice A xs.length c, .int .i64 0], .slice A xs.length c, .int .i64 0, .int .i64 0, .bool false, undef, undef, undef, .tuple #[.agg #[.string title2, .string lang2, .int .u8 rate2, .bool drop2, .int .i64 last2, .slice ra2 regs2.length rc2, .slice ea2 evs2.length ec2, .slice ca2 cms2.length cc2], .int .i64 0], .agg #[.string title, .string lang, .int .u8 rate, .bool drop, .int .i64 last, .slice ra regs.length rc, .slice ea evs.length ec, .slice ca cms.length cc], .slice A xs.length c, .tuple #[.agg #[.string title2, .string lang2, .int .u8 rate2, .bool drop2, .int .i64 last2, .slice ra2 regs2.length rc2, .slice ea2 evs2.length ec2, .slice ca2 cms2.length cc2], .int .i64 0], .agg #[.string title2, .string lang2, .int .u8 rate2, .bool drop2, .int .i64 last2, .slice ra2 regs2.length rc2, .slice ea2 evs2.length ec2, .slice ca2 cms2.length cc2], .int .i64 0, .tuple #[.agg d3.enc.toArray, .int .i64 0], .agg #[.string title', .string lang', .int .u8 rate', .bool drop', .int .i64 last', .slice ra' regs'.length rc', .slice ea' evs'.length ec', .slice ca' cms'.length cc'], .slice A xs.length c, .slice A' ny c', .tuple #[.agg d3.enc.toArray, .int .i64 0], .agg d3.enc.toArray, .int .i64 0, undef, undef, undef, undef, undef, undef, undef, undef, undef, undef, undef, undef, undef, undef, undef, undef, undef, undef, undef, undef, undef, undef, undef, undef, undef], defers := [] } w5 := by
    intro w5 g9 d3 A' ny c' h3l hb5 hg9 h3c h3f
    refine HK7.out _ _ ?_
    have q5 := HC3.out _ hb5
    have hl9 : g9 < w5.heap.size := (Array.getElem?_eq_some_iff.1 hg9).1
    have hl7 : u2.heap.size < w5.heap.size := Nat.lt_of_lt_of_le HG2.out hb5.size
    have hk7 := (hb5.block _ HG2.out).trans HK2.out
    have H25 := Lib.hid (Doc.later H2.out.2.1 hb5)
    have HU5 := Lib.hid (fun (w1 w6 : World) (h : Below w5.heap.size w5 w1) (h6 : Below w1.heap.size w1 w6) => (show Below w5.heap.size w5 w6 from h.trans (h6.mono h.size)))
    have HQ5 := Lib.hid (fun (w1 : World) (h : Below w5.heap.size w5 w1) => HC3.out _ (HT6.out _ _ hb5 h))
    have H3 := Lib.hid (And.intro h3c (And.intro h3l h3f))
    have c7 : ∀ (w' : World), Below w5.heap.size w5 w' → ∀ (j : Nat), w'.cell? ⟨u2.heap.size, j, none⟩ = (#[.string title2, .string lang2, .int .u8 rate2, .bool drop2, .int .i64 last2, .slice ra2 regs2.length rc2, .slice ea2 evs2.length ec2, .slice ca2 cms2.length cc2] : Array Value)[j]? := fun w' h j => cell_of_row _ _ j _ 27 (0, 0) ((h.block _ hl7).trans hk7)
    obtain ⟨title3, lang3, rate3, drop3, last3, ra3, rc3, regs3, ea3, ec3, evs3, ca3, cc3, cms3⟩ := d3
    have c9 : ∀ (w' : World), Below w5.heap.size w5 w' → ∀ (j : Nat), w'.cell? ⟨g9, j, none⟩ = (#[.string title3, .string lang3, .int .u8 rate3, .bool drop3, .int .i64 last3, .slice ra3 regs3.length rc3, .slice ea3 evs3.length ec3, .slice ca3 cms3.length cc3] : Array Value)[j]? := fun w' h j => cell_of_row _ _ j _ 27 (0, 0) ((h.block _ hl9).trans hg9)
    clear h3c h3l h3f hg9 hk7 hl7 hl9
    simp only [Doc.enc]
    have r5 : Below w5.heap.size w5 w5 := Below.refl _ _
    go_wp2_with fail
    refine (HS1.out ⟨title2, lang2, rate2, drop2, last2, ra2, rc2, regs2, ea2, ec2, evs2, ca2, cc2, cms2⟩ w5 (HB.out _ q5) H25.out H2.out.2.2 H2.out.1).mono ?_
    rintro e w6 ⟨rfl, hb6⟩
    have r6 := HU5.out _ _ r5 hb6
    have q6 := HQ5.out _ r6
    clear hb6
    go_wp2_with fail
    refine (HS2.out ⟨title3, lang3, rate3, drop3, last3, ra3, rc3, regs3, ea3, ec3, evs3, ca3, cc3, cms3⟩ w6 (HB.out _ q6) (Doc.later H3.out.2.1 r6) H3.out.2.2 H3.out.1).mono ?_
    rintro e w7 ⟨rfl, hb7⟩
    have r7 := HU5.out _ _ r6 hb7
    have q7 := HQ5.out _ r7
    clear hb7
    go_wp2_with fail
    refine (HS3.out w7 (HB.out _ q7)).mono ?_
    rintro e w8 ⟨rfl, hb8⟩
    have q8 := HQ5.out _ (HU5.out _ _ r7 hb8)
    have HE := Lib.hid (HQ.out _ (HB.out _ q8))
    clear hb8 r5 r6 r7 q5 q6 q7 q8
    rcases hlt with ⟨hn, rfl⟩ | ⟨hn, rfl⟩
    · have hd : (((xs.length : Nat) : Int) == 0) = true := by simp [hn]
      go_wp2_with fail
      exact HE.out
    · have hd : (((xs.length : Nat) : Int) == 0) = false := beq_eq_false_iff_ne.2 (by omega)
      go_wp2_with fail
      exact HE.out
  refine wp_region_held_drew (S := fun w' => Below w3.heap.size w3 w') (by kernel_rfl) hs0 (fun _ => ?_)
  try simp only [Act.put, List.getElem_toArray, List.getElem_cons_zero, List.getElem_cons_succ, List.setIfInBounds_toArray, List.set_cons_zero, List.set_cons_succ, Array.toArray_toList]
  have HT := Lib.hid HT
  generalize w3.drew = w4 at *
  refine wpAnyH_take (i := 0) (v := .agg #[.string title', .string lang', .int .u8 rate', .bool drop', .int .i64 last', .slice ra' regs'.length rc', .slice ea' evs'.length ec', .slice ca' cms'.length cc']) rfl (by kernel_rfl) (by kernel_rfl) (by kernel_rfl) (fun _ _ _ h => h) (.inl ⟨by rfl, fun w_ hS_ => by have hS9 := HC3.out _ hS_; go_simp⟩) hs0 ?_
  try simp only [Act.put, List.getElem_toArray, List.getElem_cons_zero, List.getElem_cons_succ, List.setIfInBounds_toArray, List.set_cons_zero, List.set_cons_succ, Array.toArray_toList]
  refine wpAnyH_take (i := 1) (v := .slice A xs.length c) rfl (by kernel_rfl) (by kernel_rfl) (by kernel_rfl) (fun _ _ _ h => h) (.inl ⟨by rfl, fun w_ hS_ => by go_simp⟩) hs0 ?_
  try simp only [Act.put, List.getElem_toArray, List.getElem_cons_zero, List.getElem_cons_succ, List.setIfInBounds_toArray, List.set_cons_zero, List.set_cons_succ, Array.toArray_toList]
  refine wpAnyH_ready (rs := [2, 7]) (by kernel_rfl) (by simp) ?_
  refine AllReadyH.cons rfl (fun K hK => ?_) (AllReadyH.cons rfl (fun K hK => ?_) AllReadyH.nil)
  · skip
    go_simp
    refine (HI6.out _ hs0 (SliceOf.keeps Chg.keeps _ _ _ _ hx0 HX.out)).mono ?_
    rintro e v1 ⟨A', ys, c', rfl, hy, hyc, hb1⟩
    have hs1 := HT6.out _ _ hs0 hb1
    have HY := Lib.hid hy; have HYC := Lib.hid hyc
    clear hy hyc hb1
    go_wp2_with fail
    refine hK.out _ _ hs1 (fun _ => ?_)
    clear hK
    try simp only [Act.put, List.getElem_toArray, List.getElem_cons_zero, List.getElem_cons_succ, List.setIfInBounds_toArray, List.set_cons_zero, List.set_cons_succ, Array.toArray_toList]
    refine wpAnyH_ready (rs := [3, 7]) (by kernel_rfl) (by simp) ?_
    refine AllReadyH.cons rfl (fun K hK => ?_) (AllReadyH.cons rfl (fun K hK => ?_) AllReadyH.nil)
    · skip
      go_simp
      refine (HP6.out A' c' ys _ hs1 HY.out HYC.out).mono ?_
      rintro e v2 ⟨d3, rfl, h3c, h3l, h3f, h3u, hb2⟩
      have hs2 := HT6.out _ _ hs1 hb2
      have H3 := Lib.hid (And.intro h3c (And.intro h3l h3f))
      obtain ⟨title3, lang3, rate3, drop3, last3, ra3, rc3, regs3, ea3, ec3, evs3, ca3, cc3, cms3⟩ := d3
      simp only [Doc.enc]
      clear h3c h3l h3f h3u hb2
      go_wp2_with fail
      refine hK.out _ _ hs2 (fun _ => ?_)
      clear hK
      try simp only [Act.put, List.getElem_toArray, List.getElem_cons_zero, List.getElem_cons_succ, List.setIfInBounds_toArray, List.set_cons_zero, List.set_cons_succ, Array.toArray_toList]
      refine wpAnyH_take (i := 4) (v := .tuple #[.agg #[.string title3, .string lang3, .int .u8 rate3, .bool drop3, .int .i64 last3, .slice ra3 regs3.length rc3, .slice ea3 evs3.length ec3, .slice ca3 cms3.length cc3], .int .i64 0]) rfl (by kernel_rfl) (by kernel_rfl) (by kernel_rfl) (fun _ _ _ h => h) (.inl ⟨by rfl, fun w_ hS_ => by go_simp⟩) hs2 ?_
      try simp only [Act.put, List.getElem_toArray, List.getElem_cons_zero, List.getElem_cons_succ, List.setIfInBounds_toArray, List.set_cons_zero, List.set_cons_succ, Array.toArray_toList]
      refine wpAnyH_take (i := 5) (v := .agg #[.string title3, .string lang3, .int .u8 rate3, .bool drop3, .int .i64 last3, .slice ra3 regs3.length rc3, .slice ea3 evs3.length ec3, .slice ca3 cms3.length cc3]) rfl (by kernel_rfl) (by kernel_rfl) (by kernel_rfl) (fun _ _ _ h => h) (.inl ⟨by rfl, fun w_ hS_ => by go_simp⟩) hs2 ?_
      try simp only [Act.put, List.getElem_toArray, List.getElem_cons_zero, List.getElem_cons_succ, List.setIfInBounds_toArray, List.set_cons_zero, List.set_cons_succ, Array.toArray_toList]
      refine wpAnyH_take (i := 6) (v := .int .i64 0) rfl (by kernel_rfl) (by kernel_rfl) (by kernel_rfl) (fun _ _ _ h => h) (.inl ⟨by rfl, fun w_ hS_ => by go_simp⟩) hs2 ?_
      try simp only [Act.put, List.getElem_toArray, List.getElem_cons_zero, List.getElem_cons_succ, List.setIfInBounds_toArray, List.set_cons_zero, List.set_cons_succ, Array.toArray_toList]
      refine wpAnyH_ready (rs := [7]) (by kernel_rfl) (by simp) ?_
      refine AllReadyH.cons rfl (fun K hK => ?_) AllReadyH.nil
      go_simp
      have hs3 : Below w3.heap.size w3 (v2.alloc (.cells #[.string ⟨#[]⟩, .string ⟨#[]⟩, .int .u8 0, .bool false, .int .i64 0, .slice none 0 0, .slice none 0 0, .slice none 0 0] 27)) := hs2.alloc hs2.size _
      have hz3 : (v2.alloc (.cells #[.string ⟨#[]⟩, .string ⟨#[]⟩, .int .u8 0, .bool false, .int .i64 0, .slice none 0 0, .slice none 0 0, .slice none 0 0] 27)).heap[v2.heap.size]? = some (.cells #[.string ⟨#[]⟩, .string ⟨#[]⟩, .int .u8 0, .bool false, .int .i64 0, .slice none 0 0, .slice none 0 0, .slice none 0 0] 27 (0, 0)) ∧ v2.heap.size < (v2.alloc (.cells #[.string ⟨#[]⟩, .string ⟨#[]⟩, .int .u8 0, .bool false, .int .i64 0, .slice none 0 0, .slice none 0 0, .slice none 0 0] 27)).heap.size := ⟨heap_alloc_last _ _, by simp⟩
      have hg9 : w3.heap.size ≤ v2.heap.size := hs2.size
      refine hK.out _ _ hs3 (fun _ => ?_)
      clear hK
      try simp only [Act.put, List.getElem_toArray, List.getElem_cons_zero, List.getElem_cons_succ, List.setIfInBounds_toArray, List.set_cons_zero, List.set_cons_succ, Array.toArray_toList]
      have hb3 : Below v2.heap.size v2 (v2.alloc (.cells #[.string ⟨#[]⟩, .string ⟨#[]⟩, .int .u8 0, .bool false, .int .i64 0, .slice none 0 0, .slice none 0 0, .slice none 0 0] 27)) := (Below.refl _ _).alloc (Nat.le_refl _) _
      have HN := Lib.hid (fun b (hb : Doc.uses ⟨title3, lang3, rate3, drop3, last3, ra3, rc3, regs3, ea3, ec3, evs3, ca3, cc3, cms3⟩ b) => (show b ≠ v2.heap.size by have := Doc.uses_lt H3.out.2.1 hb; omega))
      generalize hv3 : v2.alloc (.cells #[.string ⟨#[]⟩, .string ⟨#[]⟩, .int .u8 0, .bool false, .int .i64 0, .slice none 0 0, .slice none 0 0, .slice none 0 0] 27) = v3 at *
      clear hv3
      have H3 := Lib.hid (And.intro H3.out.1 (And.intro (Doc.later H3.out.2.1 hb3) H3.out.2.2))
      refine wpAnyH_ready (rs := [8]) (by kernel_rfl) (by simp) ?_
      refine AllReadyH.cons rfl (fun K hK => ?_) AllReadyH.nil
      rw [if_pos (by rfl)]
      refine wp_store_seg 27 (.tmp 9) (.tmp 35) rfl v2.heap.size 0 [.string title3, .string lang3, .int .u8 rate3, .bool drop3, .int .i64 last3, .slice ra3 regs3.length rc3, .slice ea3 evs3.length ec3, .slice ca3 cms3.length cc3] rfl rfl [] [.string ⟨#[]⟩, .string ⟨#[]⟩, .int .u8 0, .bool false, .int .i64 0, .slice none 0 0, .slice none 0 0, .slice none 0 0] [] 27 hz3.1 rfl rfl size27 (Doc.one ⟨title3, lang3, rate3, drop3, last3, ra3, rc3, regs3, ea3, ec3, evs3, ca3, cc3, cms3⟩) ?_
      simp only [List.nil_append, List.append_nil]
      have hs9 := below_setRow hs3 hg9 (List.toArray [.string title3, .string lang3, .int .u8 rate3, .bool drop3, .int .i64 last3, .slice ra3 regs3.length rc3, .slice ea3 evs3.length ec3, .slice ca3 cms3.length cc3])
      have HZ9 := Lib.hid (setRow_heap v3 v2.heap.size _ (List.toArray [.string title3, .string lang3, .int .u8 rate3, .bool drop3, .int .i64 last3, .slice ra3 regs3.length rc3, .slice ea3 evs3.length ec3, .slice ca3 cms3.length cc3]) _ _ hz3.1)
      have H3 := Lib.hid (And.intro H3.out.1 (And.intro (Doc.frame (w' := v3.setRow v2.heap.size (List.toArray [.string title3, .string lang3, .int .u8 rate3, .bool drop3, .int .i64 last3, .slice ra3 regs3.length rc3, .slice ea3 evs3.length ec3, .slice ca3 cms3.length cc3])) H3.out.2.1 (Nat.le_of_eq (size_row _ _ _).symm) (fun b hb => aside_row _ _ _ b (Doc.uses_lt H3.out.2.1 hb) (HN.out b hb))) H3.out.2.2))
      refine hK.out _ _ hs9 (fun _ => ?_)
      clear hK
      try simp only [Act.put, List.getElem_toArray, List.getElem_cons_zero, List.getElem_cons_succ, List.setIfInBounds_toArray, List.set_cons_zero, List.set_cons_succ, Array.toArray_toList]
      refine wpAnyH_take (i := 9) (v := .int .i64 0) rfl (by kernel_rfl) (by kernel_rfl) (by kernel_rfl) (fun _ _ _ h => h) (.inl ⟨by rfl, fun w_ hS_ => by go_simp⟩) hs9 ?_
      try simp only [Act.put, List.getElem_toArray, List.getElem_cons_zero, List.getElem_cons_succ, List.setIfInBounds_toArray, List.set_cons_zero, List.set_cons_succ, Array.toArray_toList]
      refine wpAnyH_done (by kernel_rfl) ?_ _
      exact HT.out _ _ ⟨title3, lang3, rate3, drop3, last3, ra3, rc3, regs3, ea3, ec3, evs3, ca3, cc3, cms3⟩ _ _ _ H3.out.2.1 hs9 HZ9.out H3.out.1 H3.out.2.2
    · skip
      go_simp
      have hs2 : Below w3.heap.size w3 (v1.alloc (.cells #[.string ⟨#[]⟩, .string ⟨#[]⟩, .int .u8 0, .bool false, .int .i64 0, .slice none 0 0, .slice none 0 0, .slice none 0 0] 27)) := hs1.alloc hs1.size _
      have hz2 : (v1.alloc (.cells #[.string ⟨#[]⟩, .string ⟨#[]⟩, .int .u8 0, .bool false, .int .i64 0, .slice none 0 0, .slice none 0 0, .slice none 0 0] 27)).heap[v1.heap.size]? = some (.cells #[.string ⟨#[]⟩, .string ⟨#[]⟩, .int .u8 0, .bool false, .int .i64 0, .slice none 0 0, .slice none 0 0, .slice none 0 0] 27 (0, 0)) ∧ v1.heap.size < (v1.alloc (.cells #[.string ⟨#[]⟩, .string ⟨#[]⟩, .int .u8 0, .bool false, .int .i64 0, .slice none 0 0, .slice none 0 0, .slice none 0 0] 27)).heap.size := ⟨heap_alloc_last _ _, by simp⟩
      have hg9 : w3.heap.size ≤ v1.heap.size := hs1.size
      refine hK.out _ _ hs2 (fun _ => ?_)
      clear hK
      try simp only [Act.put, List.getElem_toArray, List.getElem_cons_zero, List.getElem_cons_succ, List.setIfInBounds_toArray, List.set_cons_zero, List.set_cons_succ, Array.toArray_toList]
      have hb2 : Below v1.heap.size v1 (v1.alloc (.cells #[.string ⟨#[]⟩, .string ⟨#[]⟩, .int .u8 0, .bool false, .int .i64 0, .slice none 0 0, .slice none 0 0, .slice none 0 0] 27)) := (Below.refl _ _).alloc (Nat.le_refl _) _
      generalize hv2 : v1.alloc (.cells #[.string ⟨#[]⟩, .string ⟨#[]⟩, .int .u8 0, .bool false, .int .i64 0, .slice none 0 0, .slice none 0 0, .slice none 0 0] 27) = v2 at *
      clear hv2
      have HY := Lib.hid (SliceOf.keeps Chg.keeps _ _ _ _ hb2 HY.out)
      refine wpAnyH_ready (rs := [3]) (by kernel_rfl) (by simp) ?_
      refine AllReadyH.cons rfl (fun K hK => ?_) AllReadyH.nil
      go_simp
      refine (HP6.out A' c' ys _ hs2 HY.out HYC.out).mono ?_
      rintro e v3 ⟨d3, rfl, h3c, h3l, h3f, h3u, hb3⟩
      have hs3 := HT6.out _ _ hs2 hb3
      have H3 := Lib.hid (And.intro h3c (And.intro h3l h3f))
      have HN := Lib.hid (fun b (hb : d3.uses b) => (show b ≠ v1.heap.size by have := h3u b hb; have := hz2.2; omega))
      obtain ⟨title3, lang3, rate3, drop3, last3, ra3, rc3, regs3, ea3, ec3, evs3, ca3, cc3, cms3⟩ := d3
      simp only [Doc.enc]
      have hz3 := And.intro ((hb3.block _ hz2.2).trans hz2.1) (Nat.lt_of_lt_of_le hz2.2 hb3.size)
      clear h3c h3l h3f h3u hb3
      go_wp2_with fail
      refine hK.out _ _ hs3 (fun _ => ?_)
      clear hK
      try simp only [Act.put, List.getElem_toArray, List.getElem_cons_zero, List.getElem_cons_succ, List.setIfInBounds_toArray, List.set_cons_zero, List.set_cons_succ, Array.toArray_toList]
      refine wpAnyH_take (i := 4) (v := .tuple #[.agg #[.string title3, .string lang3, .int .u8 rate3, .bool drop3, .int .i64 last3, .slice ra3 regs3.length rc3, .slice ea3 evs3.length ec3, .slice ca3 cms3.length cc3], .int .i64 0]) rfl (by kernel_rfl) (by kernel_rfl) (by kernel_rfl) (fun _ _ _ h => h) (.inl ⟨by rfl, fun w_ hS_ => by go_simp⟩) hs3 ?_
      try simp only [Act.put, List.getElem_toArray, List.getElem_cons_zero, List.getElem_cons_succ, List.setIfInBounds_toArray, List.set_cons_zero, List.set_cons_succ, Array.toArray_toList]
      refine wpAnyH_take (i := 5) (v := .agg #[.string title3, .string lang3, .int .u8 rate3, .bool drop3, .int .i64 last3, .slice ra3 regs3.length rc3, .slice ea3 evs3.length ec3, .slice ca3 cms3.length cc3]) rfl (by kernel_rfl) (by kernel_rfl) (by kernel_rfl) (fun _ _ _ h => h) (.inl ⟨by rfl, fun w_ hS_ => by go_simp⟩) hs3 ?_
      try simp only [Act.put, List.getElem_toArray, List.getElem_cons_zero, List.getElem_cons_succ, List.setIfInBounds_toArray, List.set_cons_zero, List.set_cons_succ, Array.toArray_toList]
      refine wpAnyH_take (i := 6) (v := .int .i64 0) rfl (by kernel_rfl) (by kernel_rfl) (by kernel_rfl) (fun _ _ _ h => h) (.inl ⟨by rfl, fun w_ hS_ => by go_simp⟩) hs3 ?_
      try simp only [Act.put, List.getElem_toArray, List.getElem_cons_zero, List.getElem_cons_succ, List.setIfInBounds_toArray, List.set_cons_zero, List.set_cons_succ, Array.toArray_toList]
      refine wpAnyH_ready (rs := [8]) (by kernel_rfl) (by simp) ?_
      refine AllReadyH.cons rfl (fun K hK => ?_) AllReadyH.nil
      rw [if_pos (by rfl)]
      refine wp_store_seg 27 (.tmp 9) (.tmp 35) rfl v1.heap.size 0 [.string title3, .string lang3, .int .u8 rate3, .bool drop3, .int .i64 last3, .slice ra3 regs3.length rc3, .slice ea3 evs3.length ec3, .slice ca3 cms3.length cc3] rfl rfl [] [.string ⟨#[]⟩, .string ⟨#[]⟩, .int .u8 0, .bool false, .int .i64 0, .slice none 0 0, .slice none 0 0, .slice none 0 0] [] 27 hz3.1 rfl rfl size27 (Doc.one ⟨title3, lang3, rate3, drop3, last3, ra3, rc3, regs3, ea3, ec3, evs3, ca3, cc3, cms3⟩) ?_
      simp only [List.nil_append, List.append_nil]
      have hs9 := below_setRow hs3 hg9 (List.toArray [.string title3, .string lang3, .int .u8 rate3, .bool drop3, .int .i64 last3, .slice ra3 regs3.length rc3, .slice ea3 evs3.length ec3, .slice ca3 cms3.length cc3])
      have HZ9 := Lib.hid (setRow_heap v3 v1.heap.size _ (List.toArray [.string title3, .string lang3, .int .u8 rate3, .bool drop3, .int .i64 last3, .slice ra3 regs3.length rc3, .slice ea3 evs3.length ec3, .slice ca3 cms3.length cc3]) _ _ hz3.1)
      have H3 := Lib.hid (And.intro H3.out.1 (And.intro (Doc.frame (w' := v3.setRow v1.heap.size (List.toArray [.string title3, .string lang3, .int .u8 rate3, .bool drop3, .int .i64 last3, .slice ra3 regs3.length rc3, .slice ea3 evs3.length ec3, .slice ca3 cms3.length cc3])) H3.out.2.1 (Nat.le_of_eq (size_row _ _ _).symm) (fun b hb => aside_row _ _ _ b (Doc.uses_lt H3.out.2.1 hb) (HN.out b hb))) H3.out.2.2))
      refine hK.out _ _ hs9 (fun _ => ?_)
      clear hK
      try simp only [Act.put, List.getElem_toArray, List.getElem_cons_zero, List.getElem_cons_succ, List.setIfInBounds_toArray, List.set_cons_zero, List.set_cons_succ, Array.toArray_toList]
      refine wpAnyH_take (i := 9) (v := .int .i64 0) rfl (by kernel_rfl) (by kernel_rfl) (by kernel_rfl) (fun _ _ _ h => h) (.inl ⟨by rfl, fun w_ hS_ => by go_simp⟩) hs9 ?_
      try simp only [Act.put, List.getElem_toArray, List.getElem_cons_zero, List.getElem_cons_succ, List.setIfInBounds_toArray, List.set_cons_zero, List.set_cons_succ, Array.toArray_toList]
      refine wpAnyH_done (by kernel_rfl) ?_ _
      exact HT.out _ _ ⟨title3, lang3, rate3, drop3, last3, ra3, rc3, regs3, ea3, ec3, evs3, ca3, cc3, cms3⟩ _ _ _ H3.out.2.1 hs9 HZ9.out H3.out.1 H3.out.2.2
  · skip
    go_simp
    have hs1 : Below w3.heap.size w3 (w4.alloc (.cells #[.string ⟨#[]⟩, .string ⟨#[]⟩, .int .u8 0, .bool false, .int .i64 0, .slice none 0 0, .slice none 0 0, .slice none 0 0] 27)) := hs0.alloc hs0.size _
    have hz1 : (w4.alloc (.cells #[.string ⟨#[]⟩, .string ⟨#[]⟩, .int .u8 0, .bool false, .int .i64 0, .slice none 0 0, .slice none 0 0, .slice none 0 0] 27)).heap[w4.heap.size]? = some (.cells #[.string ⟨#[]⟩, .string ⟨#[]⟩, .int .u8 0, .bool false, .int .i64 0, .slice none 0 0, .slice none 0 0, .slice none 0 0] 27 (0, 0)) ∧ w4.heap.size < (w4.alloc (.cells #[.string ⟨#[]⟩, .string ⟨#[]⟩, .int .u8 0, .bool false, .int .i64 0, .slice none 0 0, .slice none 0 0, .slice none 0 0] 27)).heap.size := ⟨heap_alloc_last _ _, by simp⟩
    have hg9 : w3.heap.size ≤ w4.heap.size := hs0.size
    refine hK.out _ _ hs1 (fun _ => ?_)
    clear hK
    try simp only [Act.put, List.getElem_toArray, List.getElem_cons_zero, List.getElem_cons_succ, List.setIfInBounds_toArray, List.set_cons_zero, List.set_cons_succ, Array.toArray_toList]
    have hb1 : Below w4.heap.size w4 (w4.alloc (.cells #[.string ⟨#[]⟩, .string ⟨#[]⟩, .int .u8 0, .bool false, .int .i64 0, .slice none 0 0, .slice none 0 0, .slice none 0 0] 27)) := (Below.refl _ _).alloc (Nat.le_refl _) _
    have hx1 : Below w2.heap.size w2 (w4.alloc (.cells #[.string ⟨#[]⟩, .string ⟨#[]⟩, .int .u8 0, .bool false, .int .i64 0, .slice none 0 0, .slice none 0 0, .slice none 0 0] 27)) := hx0.trans (hb1.mono hx0.size)
    generalize hv1 : w4.alloc (.cells #[.string ⟨#[]⟩, .string ⟨#[]⟩, .int .u8 0, .bool false, .int .i64 0, .slice none 0 0, .slice none 0 0, .slice none 0 0] 27) = v1 at *
    clear hv1
    refine wpAnyH_ready (rs := [2]) (by kernel_rfl) (by simp) ?_
    refine AllReadyH.cons rfl (fun K hK => ?_) AllReadyH.nil
    go_simp
    refine (HI6.out _ hs1 (SliceOf.keeps Chg.keeps _ _ _ _ hx1 HX.out)).mono ?_
    rintro e v2 ⟨A', ys, c', rfl, hy, hyc, hb2⟩
    have hs2 := HT6.out _ _ hs1 hb2
    have HY := Lib.hid hy; have HYC := Lib.hid hyc
    have hz2 := And.intro ((hb2.block _ hz1.2).trans hz1.1) (Nat.lt_of_lt_of_le hz1.2 hb2.size)
    clear hy hyc hb2
    go_wp2_with fail
    refine hK.out _ _ hs2 (fun _ => ?_)
    clear hK
    try simp only [Act.put, List.getElem_toArray, List.getElem_cons_zero, List.getElem_cons_succ, List.setIfInBounds_toArray, List.set_cons_zero, List.set_cons_succ, Array.toArray_toList]
    refine wpAnyH_ready (rs := [3]) (by kernel_rfl) (by simp) ?_
    refine AllReadyH.cons rfl (fun K hK => ?_) AllReadyH.nil
    go_simp
    refine (HP6.out A' c' ys _ hs2 HY.out HYC.out).mono ?_
    rintro e v3 ⟨d3, rfl, h3c, h3l, h3f, h3u, hb3⟩
    have hs3 := HT6.out _ _ hs2 hb3
    have H3 := Lib.hid (And.intro h3c (And.intro h3l h3f))
    have HN := Lib.hid (fun b (hb : d3.uses b) => (show b ≠ w4.heap.size by have := h3u b hb; have := hz2.2; omega))
    obtain ⟨title3, lang3, rate3, drop3, last3, ra3, rc3, regs3, ea3, ec3, evs3, ca3, cc3, cms3⟩ := d3
    simp only [Doc.enc]
    have hz3 := And.intro ((hb3.block _ hz2.2).trans hz2.1) (Nat.lt_of_lt_of_le hz2.2 hb3.size)
    clear h3c h3l h3f h3u hb3
    go_wp2_with fail
    refine hK.out _ _ hs3 (fun _ => ?_)
    clear hK
    try simp only [Act.put, List.getElem_toArray, List.getElem_cons_zero, List.getElem_cons_succ, List.setIfInBounds_toArray, List.set_cons_zero, List.set_cons_succ, Array.toArray_toList]
    refine wpAnyH_take (i := 4) (v := .tuple #[.agg #[.string title3, .string lang3, .int .u8 rate3, .bool drop3, .int .i64 last3, .slice ra3 regs3.length rc3, .slice ea3 evs3.length ec3, .slice ca3 cms3.length cc3], .int .i64 0]) rfl (by kernel_rfl) (by kernel_rfl) (by kernel_rfl) (fun _ _ _ h => h) (.inl ⟨by rfl, fun w_ hS_ => by go_simp⟩) hs3 ?_
    try simp only [Act.put, List.getElem_toArray, List.getElem_cons_zero, List.getElem_cons_succ, List.setIfInBounds_toArray, List.set_cons_zero, List.set_cons_succ, Array.toArray_toList]
    refine wpAnyH_take (i := 5) (v := .agg #[.string title3, .string lang3, .int .u8 rate3, .bool drop3, .int .i64 last3, .slice ra3 regs3.length rc3, .slice ea3 evs3.length ec3, .slice ca3 cms3.length cc3]) rfl (by kernel_rfl) (by kernel_rfl) (by kernel_rfl) (fun _ _ _ h => h) (.inl ⟨by rfl, fun w_ hS_ => by go_simp⟩) hs3 ?_
    try simp only [Act.put, List.getElem_toArray, List.getElem_cons_zero, List.getElem_cons_succ, List.setIfInBounds_toArray, List.set_cons_zero, List.set_cons_succ, Array.toArray_toList]
    refine wpAnyH_take (i := 6) (v := .int .i64 0) rfl (by kernel_rfl) (by kernel_rfl) (by kernel_rfl) (fun _ _ _ h => h) (.inl ⟨by rfl, fun w_ hS_ => by go_simp⟩) hs3 ?_
    try simp only [Act.put, List.getElem_toArray, List.getElem_cons_zero, List.getElem_cons_succ, List.setIfInBounds_toArray, List.set_cons_zero, List.set_cons_succ, Array.toArray_toList]
    refine wpAnyH_ready (rs := [8]) (by kernel_rfl) (by simp) ?_
    refine AllReadyH.cons rfl (fun K hK => ?_) AllReadyH.nil
    rw [if_pos (by rfl)]
    refine wp_store_seg 27 (.tmp 9) (.tmp 35) rfl w4.heap.size 0 [.string title3, .string lang3, .int .u8 rate3, .bool drop3, .int .i64 last3, .slice ra3 regs3.length rc3, .slice ea3 evs3.length ec3, .slice ca3 cms3.length cc3] rfl rfl [] [.string ⟨#[]⟩, .string ⟨#[]⟩, .int .u8 0, .bool false, .int .i64 0, .slice none 0 0, .slice none 0 0, .slice none 0 0] [] 27 hz3.1 rfl rfl size27 (Doc.one ⟨title3, lang3, rate3, drop3, last3, ra3, rc3, regs3, ea3, ec3, evs3, ca3, cc3, cms3⟩) ?_
    simp only [List.nil_append, List.append_nil]
    have hs9 := below_setRow hs3 hg9 (List.toArray [.string title3, .string lang3, .int .u8 rate3, .bool drop3, .int .i64 last3, .slice ra3 regs3.length rc3, .slice ea3 evs3.length ec3, .slice ca3 cms3.length cc3])
    have HZ9 := Lib.hid (setRow_heap v3 w4.heap.size _ (List.toArray [.string title3, .string lang3, .int .u8 rate3, .bool drop3, .int .i64 last3, .slice ra3 regs3.length rc3, .slice ea3 evs3.length ec3, .slice ca3 cms3.length cc3]) _ _ hz3.1)
    have H3 := Lib.hid (And.intro H3.out.1 (And.intro (Doc.frame (w' := v3.setRow w4.heap.size (List.toArray [.string title3, .string lang3, .int .u8 rate3, .bool drop3, .int .i64 last3, .slice ra3 regs3.length rc3, .slice ea3 evs3.length ec3, .slice ca3 cms3.length cc3])) H3.out.2.1 (Nat.le_of_eq (size_row _ _ _).symm) (fun b hb => aside_row _ _ _ b (Doc.uses_lt H3.out.2.1 hb) (HN.out b hb))) H3.out.2.2))
    refine hK.out _ _ hs9 (fun _ => ?_)
    clear hK
    try simp only [Act.put, List.getElem_toArray, List.getElem_cons_zero, List.getElem_cons_succ, List.setIfInBounds_toArray, List.set_cons_zero, List.set_cons_succ, Array.toArray_toList]
    refine wpAnyH_take (i := 9) (v := .int .i64 0) rfl (by kernel_rfl) (by kernel_rfl) (by kernel_rfl) (fun _ _ _ h => h) (.inl ⟨by rfl, fun w_ hS_ => by go_simp⟩) hs9 ?_
    try simp only [Act.put, List.getElem_toArray, List.getElem_cons_zero, List.getElem_cons_succ, List.setIfInBounds_toArray, List.set_cons_zero, List.set_cons_succ, Array.toArray_toList]
    refine wpAnyH_done (by kernel_rfl) ?_ _
    exact HT.out _ _ ⟨title3, lang3, rate3, drop3, last3, ra3, rc3, regs3, ea3, ec3, evs3, ca3, cc3, cms3⟩ _ _ _ H3.out.2.1 hs9 HZ9.out H3.out.1 H3.out.2.2
theorem lawLeads_calls (Aw : World → Prop) (HAW : ∀ w, Aw w → Calls Tryz.prog 10 #[] w (fun e w' => e = .returned (.bool true) ∧ Below w.heap.size w w')) (hAB : ∀ w w', Aw w → Below w.heap.size w w' → Aw w') (a b : Doc) (w : World) (hE : Env w) (hA : Aw w) (ha : a.lies w) (hb : b.lies w) (hfa : a.fits) (hfb : b.fits) :
    Calls Tryz.prog 5 #[.agg a.enc.toArray, .agg b.enc.toArray] w fun e w' => e = .returned (.bool true) ∧ Below w.heap.size w w' := by
  by_cases h : diffErr a b = 0
  · have h0 : docErr a = 0 := by
      by_cases e : docErr a = 0
      · exact e
      · unfold diffErr at h
        rw [if_pos e] at h
        exact h
    have h1 : docErr b = 0 := by
      unfold diffErr at h
      rw [if_neg (by simp [h0])] at h
      exact h
    exact lawLeads_ok Aw HAW hAB a b w hE hA ha hb hfa hfb h0 h1
  · exact lawLeads_err Aw HAW hAB a b w hE hA ha hb hfa hfb h
end Go.Proofs.YtnlnmbcaongehaaGreatDoor
namespace Go.Proofs.YtnlnmbcaongehaaGreatDoor.diffLeads
open Go.Shelf Go.ChangeShapes Go.WideShapes Go.ChangeAt Go.RowKit Go.Lib
open Go.Proofs.YtnlnmbcaongehaaGreatDoor.diffSeat (own laidOut laidWorld laid_met env_of zd)
theorem bound {H : Type} {l : List (DataW H)} (hk : Rows.uptoSmall H l = true) : Rows.uptoBulkAll l ≤ 1048576 := of_decide_eq_true hk
theorem slice_cap {P : Program} {W : World} {r : Reach} {base len cap : Nat} {t e : TypeId} {a : Option Addr} (ht : P.underlying t = some (.slice e)) (h : Value.okWide P W r base t (.slice a len cap)) : len ≤ cap := by
  simp only [Value.okWide, ht, Cell.okWide] at h
  cases a with
  | none =>
    by_cases hl : len = 0
    · omega
    · obtain ⟨n, rfl⟩ : ∃ n, len = n + 1 := ⟨len - 1, by omega⟩
      simp only [Cell.ok, ht] at h
  | some a => simp only [Cell.ok, ht] at h; exact h.1
def wargs : Array Value := #[.agg zd, .agg zd]
set_option maxRecDepth 100000 in
/-- What the walk gives, for all arguments of small bulk and every world that holds the tables. -/
theorem contract (H : Type) (enc : TypeId × Value → H) (F : Stop.Interp) (W : World) (base : Nat) (args : Array Value) (ds gs : List (DataW H)) (before : List MemPlace)
    (hval : ∀ (j : Nat) t v, Tryz.f5.params[j]? = some t → args[j]? = some v → Value.okWide Tryz.prog W .any base t v)
    (hW : DataW.Whole enc Tryz.prog Tryz.f5.params.toList (Rows.OpenSpec.upto Rows.diffLeadsSpec).vars false W args.toList ds gs before) (hk : Rows.uptoSmall H (ds ++ gs) = true) (hE : Aw W) :
    Calls Tryz.prog 5 args W fun e W' => ∃ v, e = .returned v ∧ ((Rows.OpenSpec.upto Rows.diffLeadsSpec).at F).post enc Tryz.prog Tryz.f5 false true false false W args v W' := by
  have hW' := hW
  obtain ⟨p, q, hA0, hV, rfl, hfz, hnd⟩ := hW
  have hA : DataW.TrodAll enc Tryz.prog W 0 (fun _ => true) true Tryz.f5.params.toList args.toList ds p := hA0
  rw [Tryz.params5] at hA hval
  obtain ⟨v0, vs0, d0, ds0, p0, q0, hargs, rfl, rfl, h0, r0⟩ := trodAll_cons hA
  obtain ⟨v1, vs1, d1, ds1, p1, q1, rfl, rfl, rfl, h1, r1⟩ := trodAll_cons r0
  obtain ⟨rfl, rfl, rfl⟩ := trodAll_nil r1
  obtain rfl : args = #[v0, v1] := by cases args; simp_all
  obtain ⟨rfl, rfl⟩ := trodVars_none hV
  have hbk := bound hk
  simp only [List.append_nil, Rows.uptoBulkAll] at hbk
  have k0 := h0
  have lt0 : ∀ x ∈ p0, x.block < W.heap.size := by obtain ⟨m, hm⟩ := k0; exact DataW.trod_lt m _ _ _ hm
  obtain ⟨f0, t0⟩ := h0
  have k1 := h1
  have lt1 : ∀ x ∈ p1, x.block < W.heap.size := by obtain ⟨m, hm⟩ := k1; exact DataW.trod_lt m _ _ _ hm
  obtain ⟨f1, t1⟩ := h1
  obtain ⟨c0, rfl, hc0⟩ := okWide_struct Tryz.underlying27 (hval 0 27 v0 rfl rfl)
  obtain ⟨d, e0, l0, g0, _⟩ := read_doc f0 _ (d0, p0) t0 (by simp only; omega)
  simp [Value.cells] at e0
  have e0' : c0 = d.enc.toArray := by rw [← e0]
  subst e0'
  obtain ⟨c1, rfl, hc1⟩ := okWide_struct Tryz.underlying27 (hval 1 27 v1 rfl rfl)
  obtain ⟨d', e1, l1, g1, _⟩ := read_doc f1 _ (d1, p1) t1 (by simp only; omega)
  simp [Value.cells] at e1
  have e1' : c1 = d'.enc.toArray := by rw [← e1]
  subst e1'
  clear hA0
  refine (lawLeads_calls Aw awake_calls (fun w w' h hb => h.below hb) d d' W hE.1 hE l0 l1 g0 g1).mono fun e W' ⟨he, bel⟩ => ?_
  subst he
  exact ⟨_, rfl, _, _, _, [], _, [], hW', trodAll_mk1 (shut_bool Tryz.underlying4 _), (trodAll_cons_mk (Below.trod laidOut (by kernel_rfl) (of_decide_eq_true (by kernel_rfl)) k0 bel lt0) (trodAll_cons_mk (Below.trod laidOut (by kernel_rfl) (of_decide_eq_true (by kernel_rfl)) k1 bel lt1) trodAll_mk0)), rfl, bel.frame _, fun h => by cases h⟩
/-- What a document of zero values reads as. -/
def zdoc {H : Type} : DataW H := .agg [.lit (.string []), .lit (.string []), .lit (.int .u8 0), .lit (.bool false), .lit (.int .i64 0), .nil, .nil, .nil]
theorem wreads (os : Os) {H : Type} (enc : TypeId × Value → H) : ∃ places, DataW.whole enc Tryz.prog ((laidWorld os).forCall (fun _ _ => 0) ⟨#[], wargs, []⟩).memory Tryz.f5.params.toList (Rows.OpenSpec.upto Rows.diffLeadsSpec).vars false wargs.toList 8 = some ([zdoc, zdoc], [], places) := by
  have hw : (DataW.whole enc Tryz.prog ((laidWorld os).forCall (fun _ _ => 0) ⟨#[], wargs, []⟩).memory Tryz.f5.params.toList (Rows.OpenSpec.upto Rows.diffLeadsSpec).vars false wargs.toList 8).map (fun x => (x.1, x.2.1)) = some ([zdoc, zdoc], []) := by kernel_rfl
  obtain ⟨⟨x1, x2, x3⟩, hx, hx1⟩ := Option.map_eq_some_iff.1 hw
  simp only [Prod.mk.injEq] at hx1
  obtain ⟨rfl, rfl⟩ := hx1
  exact ⟨x3, hx⟩
set_option maxRecDepth 100000 in
theorem liftedUpto (os : Os) (started : os.Started) (H : Type) (enc : TypeId × Value → H) (F : Stop.Interp) :
    ReturnsInHanded {} Tryz.checked os 5 .any ((Rows.OpenSpec.upto Rows.diffLeadsSpec).preRow enc Tryz.prog Tryz.f5 Rows.diffLeadsUptoRow.domain false Rows.diffLeadsUptoRow.laid) (((Rows.OpenSpec.upto Rows.diffLeadsSpec).at F).post enc Tryz.prog Tryz.f5 false true false false) := by
  obtain ⟨places, hx⟩ := wreads os enc
  refine returnsInHanded_of_row (C := Tryz.checked) (s := Rows.OpenSpec.upto Rows.diffLeadsSpec) own started (by kernel_rfl) Tryz.func5
    (witness_row_at (enc := enc) (C := Tryz.checked) false (laidWorld os) wargs rfl (by kernel_rfl) (by kernel_rfl) (by kernel_rfl)
      (OpenSpec.preRow_of_cond 8 hx (by kernel_rfl) (fun k hk => by cases hk; kernel_rfl) (by kernel_rfl) (laid_met os _))) ?_
  intro W base args ds gs before hval hW _ hcond _ hL hS _
  exact contract H enc F W base args ds gs before hval hW (hcond _ rfl) (env_of hL hS)
theorem inPlace_eq : Rows.diffLeadsUptoRow.inPlace = Tryz.prog.inPlace 5 := by kernel_rfl
theorem unfollowed_eq : Tryz.prog.unfollowed 5 = true := by kernel_rfl
theorem recurses_eq : Tryz.prog.recurses 5 = true := by
  unfold Program.recurses
  rw [unfollowed_eq]
  rfl
theorem varsNamed_eq : Rows.diffLeadsUptoRow.named = Tryz.prog.varsNamed 5 := by kernel_rfl
theorem mapsRowed_eq : mapsRowed Tryz.prog = true := by kernel_rfl
theorem plainKeys_eq : Rows.diffLeadsUptoRow.plainKeys = Tryz.prog.plainKeys := by kernel_rfl
theorem joined : joinedFacts Tryz.prog 5 Tryz.f5 (Rows.OpenSpec.upto Rows.diffLeadsSpec).bare Rows.diffLeadsUptoRow = true := by
  unfold joinedFacts
  rw [← inPlace_eq, unfollowed_eq, recurses_eq, ← varsNamed_eq, laidOut, mapsRowed_eq, ← plainKeys_eq]
  refine Eq.trans ?_ (Eq.refl _)
  kernel_rfl
theorem named : Tryz.pinned.checked.prog.funcNamed Rows.diffLeadsUptoRow.func = some 5 := by kernel_rfl
theorem isInst : Tryz.f5.isInstance Tryz.pinned.checked.prog Rows.diffLeadsUptoRow.origin Rows.diffLeadsUptoRow.targs := of_decide_eq_true (by kernel_rfl)
theorem isWrap : Tryz.f5.isWrapper Tryz.pinned.checked.prog Rows.diffLeadsUptoRow.wrapper Rows.diffLeadsUptoRow.mainSum := by
  unfold Func.isWrapper
  first | (rw [if_pos (by decide +kernel)]; kernel_rfl) | (rw [if_neg (by decide +kernel)]; exact ⟨rfl, rfl⟩)
theorem saidUpto : Rows.DiffLeadsUptoSaid :=
  OpenClaim.holds_of_cond 5 Tryz.f5 rfl rfl rfl rfl rfl rfl rfl ⟨rfl, rfl, rfl, rfl, rfl⟩ rfl rfl rfl rfl rfl named Tryz.func5 joined isInst isWrap
    (fun os started H enc _ F => by rw [OpenClaim.pre_eq_preRow]; exact liftedUpto os started H enc F)
theorem plain (f : FuncId) (fn : Func) (hf : Tryz.pinned.checked.prog.funcNamed "captioner/captionerlaw17.DiffLeads" = some f) (hfn : Tryz.pinned.checked.prog.funcs[f]? = some fn) :
    false = Tryz.pinned.checked.prog.looks [] ∧ ∀ (j : Nat) t, fn.params[j]? = some t → Tryz.pinned.checked.prog.wantsStandIn t = false := by
  obtain rfl : f = 5 := Option.some.inj ((show Tryz.prog.funcNamed "captioner/captionerlaw17.DiffLeads" = some 5 by kernel_rfl).symm.trans hf) |>.symm
  obtain rfl : fn = Tryz.f5 := (Option.some.inj (Tryz.func5.symm.trans hfn)).symm
  refine ⟨by kernel_rfl, fun j t ht => ?_⟩
  rw [Tryz.params5] at ht
  have hm := Array.mem_of_getElem? ht
  simp at hm
  obtain rfl : t = 27 := by simpa using hm
  · exact (show Tryz.prog.wantsStandIn 27 = false by kernel_rfl)
/-- DiffLeads returns true for all arguments of bulk at most 1048576. -/
theorem cardUpto : Rows.DiffLeadsUptoCardSaid :=
  Claim7.holds_tied_plain_at .later [] _ _ _ _ saidUpto (fun _ h => by cases h) (by kernel_rfl) (fun _ h => by cases h) diffLeadsUpto_row_tie rfl ⟨rfl, rfl⟩ (by kernel_rfl) rfl plain (by kernel_rfl)
#print axioms cardUpto
end Go.Proofs.YtnlnmbcaongehaaGreatDoor.diffLeads
