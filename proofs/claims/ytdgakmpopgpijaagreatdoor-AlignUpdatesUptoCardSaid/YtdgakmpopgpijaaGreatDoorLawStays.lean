/- The contract of the law AlignStays: it returns true. -/
import Derived.Test.YtdgakmpopgpijaaGreatDoorStays
set_option linter.unusedVariables false
namespace Go.Proofs.YtdgakmpopgpijaaGreatDoor
open Go.RowKit

theorem check_calls (a : Option Addr) (cap : Nat) (xs : List Lk) (d d' : Doc) (w : World) (hE : Env w) (hx : LksAt w a xs) (hfx : ∀ x ∈ xs, x.fits) (hlx : xs.length ≤ 4000000) (hd : d.lies w) (hd' : d'.lies w) (hf : d.fits) (hf' : d'.fits) :
    Calls Tryz.prog 11 #[.slice a xs.length cap, .agg d.enc.toArray, .agg d'.enc.toArray] w fun e w' => e = .returned (.int .i64 (chkErr xs d d')) ∧ Below w.heap.size w w' := by
  cases h1 : formB xs
  · exact check_form a cap xs d d' w hE hx hfx hlx hd hd' hf hf' h1
  · by_cases h2 : docErr d = 0
    · by_cases h3 : docErr d' = 0
      · exact check_good a cap xs d d' w hE hx hfx hlx hd hd' hf hf' h1 h2 h3
      · exact check_tgt a cap xs d d' w hE hx hfx hlx hd hd' hf hf' h1 h2 (by simpa using h3)
    · exact check_tpl a cap xs d d' w hE hx hfx hlx hd hd' hf hf' h1 (by simpa using h2)

theorem updAll_len (xs : List Lk) (b a : List Ev) : (updAll xs b a).length ≤ xs.length + a.length := by
  unfold updAll
  rw [List.length_append, ← upTo_all, ← upTo_all]
  have h1 := upTo_len (updOne b a) (updOne_one b a) xs xs.length
  have h2 := upTo_len (newOne xs) (newOne_one xs) a a.length
  omega
theorem LkOk.fits {x : Lk} (h : LkOk x) : x.fits := by
  unfold LkOk at h
  unfold Lk.fits i64
  omega

/-- The second Check of the law. -/
theorem again_calls (a : Option Addr) (cap : Nat) (xs ys : List Lk) (d d' after : Doc) (w : World) (hE : Env w) (hy : LksAt w a ys) (hl : xs.length ≤ 2000000) (hd : after.lies w) (hd' : d'.lies w) (hf : after.fits) (hf' : d'.fits)
    (hc : chkErr xs d d' = 0) (ha : docErr after = 0) (hp : ys.Perm (updAll xs d.evs after.evs)) (hs : ys.Pairwise (fun x y => x.tpl ≤ y.tpl)) :
    Calls Tryz.prog 11 #[.slice a ys.length cap, .agg after.enc.toArray, .agg d'.enc.toArray] w fun e w' => e = .returned (.int .i64 0) ∧ Below w.heap.size w w' := by
  have h0 := stays hc ha hp hs
  have hb := (chk_zero h0).2.2
  have h := check_calls a cap ys after d' w hE hy (fun x hx => ((form_ok hb.form).1 x hx).fits) (by rw [hp.length_eq]; have := updAll_len xs d.evs after.evs; have := (doc_parts ha).1; omega) hd hd' hf hf'
  rw [h0] at h
  exact h

set_option maxRecDepth 100000 in
set_option maxHeartbeats 6400000 in
theorem staysLaw_calls (a : Option Addr) (cap : Nat) (xs : List Lk) (d d' after : Doc) (w : World) (hE : Env w) (hx : LksAt w a xs) (hfx : ∀ x ∈ xs, x.fits) (hlx : xs.length ≤ 2000000) (hd : d.lies w) (hd' : d'.lies w) (hda : after.lies w) (hf : d.fits) (hf' : d'.fits) (hfa : after.fits) :
    Calls Tryz.prog 4 #[.slice a xs.length cap, .agg (d.enc ++ d'.enc).toArray, .agg after.enc.toArray] w fun e w' => e = .returned (.bool true) ∧ Below w.heap.size w w' := by
  have hAW := fun (w1 : World) (h : Below w.heap.size w w1) => awake_calls w1 (hE.below h (Nat.le_refl _))
  have hUP := fun (w1 : World) (h : Below w.heap.size w w1) => update_calls a cap xs d after w1 (hE.below h (Nat.le_refl _)) (hx.later h) hfx (by omega) (Doc.later hd h) (Doc.later hda h) hf hfa
  have hCK := fun (w1 : World) (h : Below w.heap.size w w1) => check_calls a cap xs d d' w1 (hE.below h (Nat.le_refl _)) (hx.later h) hfx (by omega) (Doc.later hd h) (Doc.later hd' h) hf hf'
  have hDA := fun (w1 : World) (h : Below w.heap.size w w1) => docCheck_calls after w1 (hE.below h (Nat.le_refl _)) (Doc.later hda h) hfa
  have hAG := fun (a : Option Addr) (cap : Nat) (ys : List Lk) (w1 : World) (h : Below w.heap.size w w1) (hy : LksAt w1 a ys) => again_calls a cap xs ys d d' after w1 (hE.below h (Nat.le_refl _)) hy hlx (Doc.later hda h) (Doc.later hd' h) hfa hf'
  have hST := fun hc ha => stays_err (xs := xs) (d := d) (d' := d') (after := after) hc ha
  unfold UpdatePost at hUP
  generalize updErr xs d after = E at *
  generalize chkErr xs d d' = C at *
  generalize docErr after = D at *
  generalize updAll xs d.evs after.evs = U at *
  have HAW := Lib.hid hAW; have HUP := Lib.hid hUP; have HCK := Lib.hid hCK; have HDA := Lib.hid hDA; have HAG := Lib.hid hAG
  have HST := Lib.hid hST
  clear hAW hUP hCK hDA hAG hST hd hd' hda hf hf' hfa hfx hE hx
  have HQ := Lib.hid (fun w' (hb : Below w.heap.size w w') => (show (fun (e : Ending) w' => e = .returned (.bool true) ∧ Below w.heap.size w w') (.returned (.bool true)) w' from ⟨rfl, hb⟩))
  generalize (fun (e : Ending) w' => e = .returned (.bool true) ∧ Below w.heap.size w w') = Q at *
  obtain ⟨title, lang, rate, drop, last, ra, rc, regs, ea, ec, evs, ca, cc, cms⟩ := d
  obtain ⟨title', lang', rate', drop', last', ra', rc', regs', ea', ec', evs', ca', cc', cms'⟩ := d'
  obtain ⟨title2, lang2, rate2, drop2, last2, ra2, rc2, regs2, ea2, ec2, evs2, ca2, cc2, cms2⟩ := after
  simp only [Doc.enc] at HUP HCK HDA HAG ⊢
  simp only [List.cons_append, List.nil_append]
  generalize hds : #[Value.string title, .string lang, .int .u8 rate, .bool drop, .int .i64 last, .slice ra regs.length rc, .slice ea evs.length ec, .slice ca cms.length cc, Value.string title', .string lang', .int .u8 rate', .bool drop', .int .i64 last', .slice ra' regs'.length rc', .slice ea' evs'.length ec', .slice ca' cms'.length cc'] = ds at *
  generalize hes : #[Value.string title2, .string lang2, .int .u8 rate2, .bool drop2, .int .i64 last2, .slice ra2 regs2.length rc2, .slice ea2 evs2.length ec2, .slice ca2 cms2.length cc2] = es at *
  have f0 := box2_fst w ds es 30 28 0 (.string title) (by rw [← hds]; rfl)
  have f1 := box2_fst w ds es 30 28 1 (.string lang) (by rw [← hds]; rfl)
  have f2 := box2_fst w ds es 30 28 2 (.int .u8 rate) (by rw [← hds]; rfl)
  have f3 := box2_fst w ds es 30 28 3 (.bool drop) (by rw [← hds]; rfl)
  have f4 := box2_fst w ds es 30 28 4 (.int .i64 last) (by rw [← hds]; rfl)
  have f5 := box2_fst w ds es 30 28 5 (.slice ra regs.length rc) (by rw [← hds]; rfl)
  have f6 := box2_fst w ds es 30 28 6 (.slice ea evs.length ec) (by rw [← hds]; rfl)
  have f7 := box2_fst w ds es 30 28 7 (.slice ca cms.length cc) (by rw [← hds]; rfl)
  have f8 := box2_fst w ds es 30 28 8 (.string title') (by rw [← hds]; rfl)
  have f9 := box2_fst w ds es 30 28 9 (.string lang') (by rw [← hds]; rfl)
  have f10 := box2_fst w ds es 30 28 10 (.int .u8 rate') (by rw [← hds]; rfl)
  have f11 := box2_fst w ds es 30 28 11 (.bool drop') (by rw [← hds]; rfl)
  have f12 := box2_fst w ds es 30 28 12 (.int .i64 last') (by rw [← hds]; rfl)
  have f13 := box2_fst w ds es 30 28 13 (.slice ra' regs'.length rc') (by rw [← hds]; rfl)
  have f14 := box2_fst w ds es 30 28 14 (.slice ea' evs'.length ec') (by rw [← hds]; rfl)
  have f15 := box2_fst w ds es 30 28 15 (.slice ca' cms'.length cc') (by rw [← hds]; rfl)
  have g0 := box2_snd w ds es 30 28 0 (.string title2) (by rw [← hes]; rfl)
  have g1 := box2_snd w ds es 30 28 1 (.string lang2) (by rw [← hes]; rfl)
  have g2 := box2_snd w ds es 30 28 2 (.int .u8 rate2) (by rw [← hes]; rfl)
  have g3 := box2_snd w ds es 30 28 3 (.bool drop2) (by rw [← hes]; rfl)
  have g4 := box2_snd w ds es 30 28 4 (.int .i64 last2) (by rw [← hes]; rfl)
  have g5 := box2_snd w ds es 30 28 5 (.slice ra2 regs2.length rc2) (by rw [← hes]; rfl)
  have g6 := box2_snd w ds es 30 28 6 (.slice ea2 evs2.length ec2) (by rw [← hes]; rfl)
  have g7 := box2_snd w ds es 30 28 7 (.slice ca2 cms2.length cc2) (by rw [← hes]; rfl)
  have HB := Lib.hid (fun (w1 : World) (h : Below (w.heap.size + 2) ((w.alloc (.cells ds 30)).alloc (.cells es 28)) w1) => box2_below h)
  have hb0 : Below (w.heap.size + 2) ((w.alloc (.cells ds 30)).alloc (.cells es 28)) ((w.alloc (.cells ds 30)).alloc (.cells es 28)) := Below.refl _ _
  have hsz : ((w.alloc (.cells ds 30)).alloc (.cells es 28)).heap.size = w.heap.size + 2 := by simp
  generalize hW0 : (w.alloc (.cells ds 30)).alloc (.cells es 28) = W0 at *
  have HW0 := Lib.hid hW0
  have HLT := Lib.hid (fun (w1 : World) (h : Below (w.heap.size + 2) W0 w1) => (show w.heap.size + 2 ≤ w1.heap.size by have := h.size; rw [hsz] at this; exact this))
  have HT0 := Lib.hid (fun (w2 w3 : World) (h : Below (w.heap.size + 2) W0 w2) (h3 : Below w2.heap.size w2 w3) => h.trans (h3.mono (HLT.out _ h)))
  clear hW0 hsz
  go_enter Tryz.func4, Tryz.ntmps4
  subst hds
  subst hes
  go_wp2_with fail
  rw [HW0.out]
  refine (HAW.out _ (HB.out _ hb0)).mono ?_
  rintro e w1 ⟨rfl, hb1⟩
  have hc1 := HT0.out _ _ hb0 hb1
  clear hb1 HAW
  go_wp2_with fail
  refine (HUP.out _ (HB.out _ hc1)).mono ?_
  rintro e w2 ⟨⟨v, rfl, hv1, hv2⟩, hb2⟩
  have hc2 := HT0.out _ _ hc1 hb2
  have HV1 := Lib.hid hv1
  have HV2 := Lib.hid hv2
  clear hb2 HUP hv1 hv2
  go_wp2_with fail
  refine (HCK.out _ (HB.out _ hc2)).mono ?_
  rintro e w3 ⟨rfl, hb3⟩
  have hc3 := HT0.out _ _ hc2 hb3
  have hb3' := hb3
  clear HCK
  by_cases hC : C = 0
  · by_cases hD : D = 0
    · have hE0 := HST.out hC hD
      obtain ⟨ys, a', cap', rfl, hy, hp, hs⟩ := HV2.out hE0
      have hy3 := hy.later hb3
      have HA2 := Lib.hid (fun (w4 : World) (h : Below w.heap.size w w4) (hy : LksAt w4 a' ys) => HAG.out a' cap' ys w4 h hy hC hD hp hs)
      subst hC
      subst hD
      subst hE0
      clear hb3 hb3' HST HV1 HV2 hy hp hs HAG
      have HY3 := Lib.hid hy3
      clear hy3
      go_wp2_with fail
      refine (HDA.out _ (HB.out _ hc3)).mono ?_
      rintro e w4 ⟨rfl, hb4⟩
      have hc4 := HT0.out _ _ hc3 hb4
      have HA3 := Lib.hid (HA2.out w4 (HB.out _ hc4) (HY3.out.later hb4))
      clear hb4 HA2 HDA
      go_wp2_with fail
      refine HA3.out.mono ?_
      rintro e w5 ⟨rfl, hb5⟩
      have hc5 := HT0.out _ _ hc4 hb5
      clear hb5 HA3
      go_wp2_with fail
      exact HQ.out _ (HB.out _ hc5)
    · have hD2 : (D != 0) = true := by simpa using hD
      subst hC
      by_cases hE0 : E = 0
      · obtain ⟨ys, a', cap', rfl, _, _, _⟩ := HV2.out hE0
        subst hE0
        clear hb3 hb3' HST HV1 HV2 HAG hD
        go_wp2_with fail
        refine (HDA.out _ (HB.out _ hc3)).mono ?_
        rintro e w4 ⟨rfl, hb4⟩
        have hc4 := HT0.out _ _ hc3 hb4
        clear hb4 HDA
        go_wp2_with fail
        exact HQ.out _ (HB.out _ hc4)
      · obtain rfl := HV1.out hE0
        have hE2 : (E != 0) = true := by simpa using hE0
        clear hb3 hb3' HST HV1 HV2 HAG hD hE0
        go_wp2_with fail
        refine (HDA.out _ (HB.out _ hc3)).mono ?_
        rintro e w4 ⟨rfl, hb4⟩
        have hc4 := HT0.out _ _ hc3 hb4
        clear hb4 HDA
        go_wp2_with fail
        exact HQ.out _ (HB.out _ hc4)
  · have hC2 : (C != 0) = true := by simpa using hC
    by_cases hE0 : E = 0
    · obtain ⟨ys, a', cap', rfl, _, _, _⟩ := HV2.out hE0
      subst hE0
      clear hb3 hb3' HST HV1 HV2 HAG hC HDA
      go_wp2_with fail
      exact HQ.out _ (HB.out _ hc3)
    · obtain rfl := HV1.out hE0
      have hE2 : (E != 0) = true := by simpa using hE0
      clear hb3 hb3' HST HV1 HV2 HAG hC HDA hE0
      go_wp2_with fail
      exact HQ.out _ (HB.out _ hc3)

end Go.Proofs.YtdgakmpopgpijaaGreatDoor
