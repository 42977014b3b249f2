/- AlignChecks: the error of any links, what is found in them, and the links of a new template are the specified ones. Conditions: the arguments hold together at most 1048576 values and letters (the second form); the library's tables are as their text lays them (the card ties them). -/
import Derived.Test.YtdgakmpopgpijaaGreatDoorJoinD
import Derived.Test.YtdgakmpopgpijaaGreatDoorJoinR
import Derived.Test.YtdgakmpopgpijaaGreatDoorStays
import Derived.Test.YtdgakmpopgpijaaGreatDoorAwake
import Derived.Test.YtdgakmpopgpijaaGreatDoorLawStays
import Derived.Deep.RegionHeld3
import Derived.Test.YtdgakmpopgpijaaGreatDoorCards
import Derived.Test.YtdgakmpopgpijaaGreatDoorTie
import Derived.Test.YtdgakmpopgpijaaGreatDoorLaid
set_option linter.unusedVariables false
/- The contract of the reference's Check of links: the same specification as the program's. -/
namespace Go.Proofs.YtdgakmpopgpijaaGreatDoor
open Go.RowKit

theorem aimB_at (xs : List Lk) (y : Int) : aimB y xs = aimAt xs xs.length y := by
  rw [Bool.eq_iff_iff, aim_iff]
  unfold aimB
  rw [List.any_eq_true]
  constructor
  · rintro ⟨x, h1, h2⟩; exact ⟨x, h1, by simpa using h2⟩
  · rintro ⟨x, h1, h2⟩; exact ⟨x, h1, by simpa using h2⟩

set_option maxRecDepth 100000 in
set_option maxHeartbeats 6400000 in
theorem refCheck_bad (a : Option Addr) (cap : Nat) (xs : List Lk) (d d' : Doc) (w : World) (hE : Env w) (hx : LksAt w a xs) (hfx : ∀ x ∈ xs, x.fits) (hlx : xs.length ≤ 4000000) (hcap : xs.length ≤ cap) (hd : d.lies w) (hd' : d'.lies w) (hf : d.fits) (hf' : d'.fits) (hbad : formB xs = false ∨ (formB xs = true ∧ ((docErr d != 0) = true ∨ (docErr d = 0 ∧ (docErr d' != 0) = true)))) :
    Calls Tryz.prog 13 #[.slice a xs.length cap, .agg d.enc.toArray, .agg d'.enc.toArray] w fun e w' => e = .returned (.int .i64 (chkErr xs d d')) ∧ Below w.heap.size w w' := by
  have hIF := fun (w1 : World) (h : Below w.heap.size w w1) => formed_calls a cap xs w1 (hx.later h) hfx hlx hcap
  have hD1 := fun (w1 : World) (h : Below w.heap.size w w1) => refDocCheck_calls d w1 (hE.below h (Nat.le_refl _)) (Doc.later hd h) hf
  have hD2 := fun (w1 : World) (h : Below w.heap.size w w1) => refDocCheck_calls d' w1 (hE.below h (Nat.le_refl _)) (Doc.later hd' h) hf'
  have hG : (formB xs = false → chkErr xs d d' = 4) ∧ (formB xs = true → (docErr d != 0) = true → chkErr xs d d' = docErr d) ∧ (formB xs = true → docErr d = 0 → (docErr d' != 0) = true → chkErr xs d d' = docErr d') := by
    unfold chkErr
    refine ⟨fun h => by rw [if_pos h], fun h h2 => by rw [if_neg (by rw [h]; decide), if_pos h2], fun h h2 h3 => by rw [if_neg (by rw [h]; decide), if_neg (by rw [h2]; decide), if_pos h3]⟩
  generalize chkErr xs d d' = G at *
  generalize formB xs = FB at *
  generalize docErr d = E1 at *
  generalize docErr d' = E2 at *
  have HIF := Lib.hid hIF; have HD1 := Lib.hid hD1; have HD2 := Lib.hid hD2
  have HG := Lib.hid hG
  have HQ := Lib.hid (fun w' (hb : Below w.heap.size w w') => (show (fun (e : Ending) w' => e = .returned (.int .i64 G) ∧ Below w.heap.size w w') (.returned (.int .i64 G)) w' from ⟨rfl, hb⟩))
  generalize (fun (e : Ending) w' => e = .returned (.int .i64 G) ∧ Below w.heap.size w w') = Q at *
  clear hIF hD1 hD2 hd hd' hf hf' hfx hE hx hG
  obtain ⟨title, lang, rate, drop, last, ra, rc, regs, ea, ec, evs, ca, cc, cms⟩ := d
  obtain ⟨title', lang', rate', drop', last', ra', rc', regs', ea', ec', evs', ca', cc', cms'⟩ := d'
  simp only [Doc.enc] at HD1 HD2 ⊢
  generalize hds : #[Value.string title, .string lang, .int .u8 rate, .bool drop, .int .i64 last, .slice ra regs.length rc, .slice ea evs.length ec, .slice ca cms.length cc] = ds at *
  generalize hes : #[Value.string title', .string lang', .int .u8 rate', .bool drop', .int .i64 last', .slice ra' regs'.length rc', .slice ea' evs'.length ec', .slice ca' cms'.length cc'] = es at *
  have f0 := box2_fst w ds es 28 28 0 (.string title) (by rw [← hds]; rfl)
  have f1 := box2_fst w ds es 28 28 1 (.string lang) (by rw [← hds]; rfl)
  have f2 := box2_fst w ds es 28 28 2 (.int .u8 rate) (by rw [← hds]; rfl)
  have f3 := box2_fst w ds es 28 28 3 (.bool drop) (by rw [← hds]; rfl)
  have f4 := box2_fst w ds es 28 28 4 (.int .i64 last) (by rw [← hds]; rfl)
  have f5 := box2_fst w ds es 28 28 5 (.slice ra regs.length rc) (by rw [← hds]; rfl)
  have f6 := box2_fst w ds es 28 28 6 (.slice ea evs.length ec) (by rw [← hds]; rfl)
  have f7 := box2_fst w ds es 28 28 7 (.slice ca cms.length cc) (by rw [← hds]; rfl)
  have g0 := box2_snd w ds es 28 28 0 (.string title') (by rw [← hes]; rfl)
  have g1 := box2_snd w ds es 28 28 1 (.string lang') (by rw [← hes]; rfl)
  have g2 := box2_snd w ds es 28 28 2 (.int .u8 rate') (by rw [← hes]; rfl)
  have g3 := box2_snd w ds es 28 28 3 (.bool drop') (by rw [← hes]; rfl)
  have g4 := box2_snd w ds es 28 28 4 (.int .i64 last') (by rw [← hes]; rfl)
  have g5 := box2_snd w ds es 28 28 5 (.slice ra' regs'.length rc') (by rw [← hes]; rfl)
  have g6 := box2_snd w ds es 28 28 6 (.slice ea' evs'.length ec') (by rw [← hes]; rfl)
  have g7 := box2_snd w ds es 28 28 7 (.slice ca' cms'.length cc') (by rw [← hes]; rfl)
  have HB := Lib.hid (fun (w1 : World) (h : Below (w.heap.size + 2) ((w.alloc (.cells ds 28)).alloc (.cells es 28)) w1) => box2_below h)
  have hb0 : Below (w.heap.size + 2) ((w.alloc (.cells ds 28)).alloc (.cells es 28)) ((w.alloc (.cells ds 28)).alloc (.cells es 28)) := Below.refl _ _
  have hsz : ((w.alloc (.cells ds 28)).alloc (.cells es 28)).heap.size = w.heap.size + 2 := by simp
  generalize hW0 : (w.alloc (.cells ds 28)).alloc (.cells es 28) = W0 at *
  have HW0 := Lib.hid hW0
  have HLT := Lib.hid (fun (w1 : World) (h : Below (w.heap.size + 2) W0 w1) => (show w.heap.size + 2 ≤ w1.heap.size by have := h.size; rw [hsz] at this; exact this))
  have HT0 := Lib.hid (fun (w2 w3 : World) (h : Below (w.heap.size + 2) W0 w2) (h3 : Below w2.heap.size w2 w3) => h.trans (h3.mono (HLT.out _ h)))
  clear hW0 hsz
  rcases hbad with rfl | ⟨rfl, h2 | ⟨rfl, h3⟩⟩
  · obtain rfl := HG.out.1 rfl
    go_enter Tryz.func13, Tryz.ntmps13
    subst hds
    subst hes
    go_wp2_with fail
    rw [HW0.out]
    refine (HIF.out _ (HB.out _ hb0)).mono ?_
    rintro e w1 ⟨rfl, hb1⟩
    have hc1 := HT0.out _ _ hb0 hb1
    clear hb1
    go_wp2_with fail
    exact HQ.out _ (HB.out _ hc1)
  · obtain rfl := HG.out.2.1 rfl h2
    go_enter Tryz.func13, Tryz.ntmps13
    subst hds
    subst hes
    go_wp2_with fail
    rw [HW0.out]
    refine (HIF.out _ (HB.out _ hb0)).mono ?_
    rintro e w1 ⟨rfl, hb1⟩
    have hc1 := HT0.out _ _ hb0 hb1
    clear hb1
    go_wp2_with fail
    refine (HD1.out _ (HB.out _ hc1)).mono ?_
    rintro e w2 ⟨rfl, hb2⟩
    have hc2 := HT0.out _ _ hc1 hb2
    clear hb2
    go_wp2_with fail
    exact HQ.out _ (HB.out _ hc2)
  · obtain rfl := HG.out.2.2 rfl rfl h3
    go_enter Tryz.func13, Tryz.ntmps13
    subst hds
    subst hes
    go_wp2_with fail
    rw [HW0.out]
    refine (HIF.out _ (HB.out _ hb0)).mono ?_
    rintro e w1 ⟨rfl, hb1⟩
    have hc1 := HT0.out _ _ hb0 hb1
    clear hb1
    go_wp2_with fail
    refine (HD1.out _ (HB.out _ hc1)).mono ?_
    rintro e w2 ⟨rfl, hb2⟩
    have hc2 := HT0.out _ _ hc1 hb2
    clear hb2
    go_wp2_with fail
    refine (HD2.out _ (HB.out _ hc2)).mono ?_
    rintro e w3 ⟨rfl, hb3⟩
    have hc3 := HT0.out _ _ hc2 hb3
    clear hb3
    go_wp2_with fail
    exact HQ.out _ (HB.out _ hc3)

set_option maxRecDepth 100000 in
set_option maxHeartbeats 6400000 in
theorem refCheck_good (a : Option Addr) (cap : Nat) (xs : List Lk) (d d' : Doc) (w : World) (hE : Env w) (hx : LksAt w a xs) (hfx : ∀ x ∈ xs, x.fits) (hlx : xs.length ≤ 4000000) (hcap : xs.length ≤ cap) (hd : d.lies w) (hd' : d'.lies w) (hf : d.fits) (hf' : d'.fits) (h1 : formB xs = true) (h2 : docErr d = 0) (h3 : docErr d' = 0) :
    Calls Tryz.prog 13 #[.slice a xs.length cap, .agg d.enc.toArray, .agg d'.enc.toArray] w fun e w' => e = .returned (.int .i64 (chkErr xs d d')) ∧ Below w.heap.size w w' := by
  have hIF := fun (w1 : World) (h : Below w.heap.size w w1) => formed_calls a cap xs w1 (hx.later h) hfx hlx hcap
  have hD1 := fun (w1 : World) (h : Below w.heap.size w w1) => refDocCheck_calls d w1 (hE.below h (Nat.le_refl _)) (Doc.later hd h) hf
  have hD2 := fun (w1 : World) (h : Below w.heap.size w w1) => refDocCheck_calls d' w1 (hE.below h (Nat.le_refl _)) (Doc.later hd' h) hf'
  have hF1 := fun (id : Int) (w1 : World) (h : Below w.heap.size w w1) => refDocFind_calls d id w1 (hd.2.1.later h) hf.2.2.2.2.2.2.2.2.1
  have hF2 := fun (id : Int) (w1 : World) (h : Below w.heap.size w w1) => refDocFind_calls d' id w1 (hd'.2.1.later h) hf'.2.2.2.2.2.2.2.2.1
  have hFI := fun (id : Int) (w1 : World) (h : Below w.heap.size w w1) => refFind_calls a cap xs id w1 (hx.later h) hlx
  have hAI := fun (id : Int) (w1 : World) (h : Below w.heap.size w w1) => aimed_calls a cap xs id w1 (hx.later h) hlx
  have HX := Lib.hid hx
  have HEV := Lib.hid hd.2.1
  have HEV' := Lib.hid hd'.2.1
  have hle := hf.2.2.2.2.2.2.2.2.1
  have hle' := hf'.2.2.2.2.2.2.2.2.1
  rw [h1] at hIF
  rw [h2] at hD1
  rw [h3] at hD2
  rw [show chkErr xs d d' = chk1 xs d.evs d'.evs by unfold chkErr; rw [if_neg (by rw [h1]; decide), if_neg (by rw [h2]; decide), if_neg (by rw [h3]; decide)]]
  clear h1 h2 h3
  generalize hG : chk1 xs d.evs d'.evs = G at *
  have HG := Lib.hid hG
  clear hG
  have HQ := Lib.hid (fun w' (hb : Below w.heap.size w w') => (show (fun (e : Ending) w' => e = .returned (.int .i64 G) ∧ Below w.heap.size w w') (.returned (.int .i64 G)) w' from ⟨rfl, hb⟩))
  have HIF := Lib.hid hIF; have HD1 := Lib.hid hD1; have HD2 := Lib.hid hD2; have HF1 := Lib.hid hF1; have HF2 := Lib.hid hF2; have HFI := Lib.hid hFI; have HAI := Lib.hid hAI
  clear hIF hD1 hD2 hF1 hF2 hFI hAI hd hd' hf hf' hfx hE hx
  generalize (fun (e : Ending) w' => e = .returned (.int .i64 G) ∧ Below w.heap.size w w') = Q at *
  obtain ⟨title, lang, rate, drop, last, ra, rc, regs, ea, ec, evs, ca, cc, cms⟩ := d
  obtain ⟨title', lang', rate', drop', last', ra', rc', regs', ea', ec', evs', ca', cc', cms'⟩ := d'
  simp only at HEV HEV' hle hle' HF1 HF2
  simp only [Doc.enc] at HD1 HD2 HF1 HF2 ⊢
  generalize hds : #[Value.string title, .string lang, .int .u8 rate, .bool drop, .int .i64 last, .slice ra regs.length rc, .slice ea evs.length ec, .slice ca cms.length cc] = ds at *
  generalize hes : #[Value.string title', .string lang', .int .u8 rate', .bool drop', .int .i64 last', .slice ra' regs'.length rc', .slice ea' evs'.length ec', .slice ca' cms'.length cc'] = es at *
  have f0 := box2_fst w ds es 28 28 0 (.string title) (by rw [← hds]; rfl)
  have f1 := box2_fst w ds es 28 28 1 (.string lang) (by rw [← hds]; rfl)
  have f2 := box2_fst w ds es 28 28 2 (.int .u8 rate) (by rw [← hds]; rfl)
  have f3 := box2_fst w ds es 28 28 3 (.bool drop) (by rw [← hds]; rfl)
  have f4 := box2_fst w ds es 28 28 4 (.int .i64 last) (by rw [← hds]; rfl)
  have f5 := box2_fst w ds es 28 28 5 (.slice ra regs.length rc) (by rw [← hds]; rfl)
  have f6 := box2_fst w ds es 28 28 6 (.slice ea evs.length ec) (by rw [← hds]; rfl)
  have f7 := box2_fst w ds es 28 28 7 (.slice ca cms.length cc) (by rw [← hds]; rfl)
  have g0 := box2_snd w ds es 28 28 0 (.string title') (by rw [← hes]; rfl)
  have g1 := box2_snd w ds es 28 28 1 (.string lang') (by rw [← hes]; rfl)
  have g2 := box2_snd w ds es 28 28 2 (.int .u8 rate') (by rw [← hes]; rfl)
  have g3 := box2_snd w ds es 28 28 3 (.bool drop') (by rw [← hes]; rfl)
  have g4 := box2_snd w ds es 28 28 4 (.int .i64 last') (by rw [← hes]; rfl)
  have g5 := box2_snd w ds es 28 28 5 (.slice ra' regs'.length rc') (by rw [← hes]; rfl)
  have g6 := box2_snd w ds es 28 28 6 (.slice ea' evs'.length ec') (by rw [← hes]; rfl)
  have g7 := box2_snd w ds es 28 28 7 (.slice ca' cms'.length cc') (by rw [← hes]; rfl)
  have HB := Lib.hid (fun (w1 : World) (h : Below (w.heap.size + 2) ((w.alloc (.cells ds 28)).alloc (.cells es 28)) w1) => box2_below h)
  have hb0 : Below (w.heap.size + 2) ((w.alloc (.cells ds 28)).alloc (.cells es 28)) ((w.alloc (.cells ds 28)).alloc (.cells es 28)) := Below.refl _ _
  have hsz : ((w.alloc (.cells ds 28)).alloc (.cells es 28)).heap.size = w.heap.size + 2 := by simp
  generalize hW0 : (w.alloc (.cells ds 28)).alloc (.cells es 28) = W0 at *
  have HW0 := Lib.hid hW0
  have HLT := Lib.hid (fun (w1 : World) (h : Below (w.heap.size + 2) W0 w1) => (show w.heap.size + 2 ≤ w1.heap.size by have := h.size; rw [hsz] at this; exact this))
  have HT0 := Lib.hid (fun (w2 w3 : World) (h : Below (w.heap.size + 2) W0 w2) (h3 : Below w2.heap.size w2 w3) => h.trans (h3.mono (HLT.out _ h)))
  clear hW0 hsz
  go_enter Tryz.func13, Tryz.ntmps13
  subst hds
  subst hes
  go_wp2_with fail
  rw [HW0.out]
  refine (HIF.out _ (HB.out _ hb0)).mono ?_
  rintro e w1 ⟨rfl, hb1⟩
  have hc1 := HT0.out _ _ hb0 hb1
  clear hb1
  go_wp2_with fail
  refine (HD1.out _ (HB.out _ hc1)).mono ?_
  rintro e w2 ⟨rfl, hb2⟩
  have hc2 := HT0.out _ _ hc1 hb2
  clear hb2
  go_wp2_with fail
  refine (HD2.out _ (HB.out _ hc2)).mono ?_
  rintro e w3 ⟨rfl, hb3⟩
  have hc3 := HT0.out _ _ hc2 hb3
  clear hb3
  go_wp2_with fail
  clear hc1 hc2 HIF HD1 HD2
  go_loopw [32] (fun i wr => ∃ k : Nat, k ≤ xs.length ∧ i = .int .i64 k ∧ firstBad (badNone evs evs') 6 (xs.drop k) (chk2 xs evs evs') = G ∧ Below (w.heap.size + 2) W0 wr) (fun i _ => xs.length - (intOf i).toNat)
  case atStart => exact ⟨0, by omega, rfl, HG.out, hc3⟩
  case round =>
    obtain ⟨k, hk, rfl, hp, hb⟩ := hrel
    clear HG hc3
    have hba := hb
    by_cases hlt : k < xs.length
    · obtain ⟨b, off, x, he, hbl, hxk, hc, _⟩ := (HX.out.later (HB.out _ hb)).at_ hlt
      rw [firstBad_at _ _ xs _ k x hxk] at hp
      obtain ⟨tpl, tgt, st⟩ := x
      have d0 := hc 0 _ rfl; have d1 := hc 1 _ rfl; have d2 := hc 2 _ rfl
      simp only [Nat.add_zero] at d0 d1 d2
      subst he
      have HCA := Lib.hid (fun (w1 : World) (h : Below (w.heap.size + 2) W0 w1) => HF1.out tpl w1 (HB.out _ h))
      have HCB := Lib.hid (fun (w1 : World) (h : Below (w.heap.size + 2) W0 w1) => HF2.out tgt w1 (HB.out _ h))
      generalize hR : firstBad (badNone evs evs') 6 (xs.drop (k + 1)) (chk2 xs evs evs') = R at hp
      have HRR := Lib.hid hR
      clear hR
      unfold badNone at hp
      simp only at hp
      generalize posOf (hasId tpl) evs = N1 at *
      generalize posOf (hasId tgt) evs' = N2 at *
      have HP := Lib.hid hp
      clear hc hxk hp
      have hbs := HLT.out _ hb
      have hbL : ∀ o : Obj, Below (w.heap.size + 2) W0 (wr.alloc o) := fun o => hb.alloc hbs o
      have HBW := Lib.hid (fun (w' : World) (h : Below (wr.heap.size + 1) (wr.alloc (.cells #[.int .i64 tpl, .int .i64 tgt, .int .u8 st] 49)) w') => ((hb.alloc hbs _).trans (h.mono (by omega)) : Below (w.heap.size + 2) W0 w'))
      have HCH := Lib.hid (fun (w2 w3 : World) (h : Below (wr.heap.size + 1) (wr.alloc (.cells #[.int .i64 tpl, .int .i64 tgt, .int .u8 st] 49)) w2) (h3 : Below w2.heap.size w2 w3) => h.trans (h3.mono (by have := h.size; rw [World.size_alloc] at this; exact this)))
      have x0 := box_cell wr #[.int .i64 tpl, .int .i64 tgt, .int .u8 st] 49 0 _ rfl
      have x1 := box_cell wr #[.int .i64 tpl, .int .i64 tgt, .int .u8 st] 49 1 _ rfl
      have x2 := box_cell wr #[.int .i64 tpl, .int .i64 tgt, .int .u8 st] 49 2 _ rfl
      have u0 := fun w' h => f0 w' (HBW.out w' h); have v0 := fun w' h => g0 w' (HBW.out w' h)
      have u1 := fun w' h => f1 w' (HBW.out w' h); have v1 := fun w' h => g1 w' (HBW.out w' h)
      have u2 := fun w' h => f2 w' (HBW.out w' h); have v2 := fun w' h => g2 w' (HBW.out w' h)
      have u3 := fun w' h => f3 w' (HBW.out w' h); have v3 := fun w' h => g3 w' (HBW.out w' h)
      have u4 := fun w' h => f4 w' (HBW.out w' h); have v4 := fun w' h => g4 w' (HBW.out w' h)
      have u5 := fun w' h => f5 w' (HBW.out w' h); have v5 := fun w' h => g5 w' (HBW.out w' h)
      have u6 := fun w' h => f6 w' (HBW.out w' h); have v6 := fun w' h => g6 w' (HBW.out w' h)
      have u7 := fun w' h => f7 w' (HBW.out w' h); have v7 := fun w' h => g7 w' (HBW.out w' h)
      have hq0 : Below (wr.heap.size + 1) (wr.alloc (.cells #[.int .i64 tpl, .int .i64 tgt, .int .u8 st] 49)) (wr.alloc (.cells #[.int .i64 tpl, .int .i64 tgt, .int .u8 st] 49)) := Below.refl _ _
      generalize hWR : wr.alloc (.cells #[.int .i64 tpl, .int .i64 tgt, .int .u8 st] 49) = WR at HBW HCH x0 x1 x2 u0 u1 u2 u3 u4 u5 u6 u7 v0 v1 v2 v3 v4 v5 v6 v7 hq0
      have HWR := Lib.hid hWR
      clear hWR
      by_cases hs : st = 4
      · subst hs
        by_cases ht : tgt = 0
        · subst ht
          have HV := Lib.hid (show R = G by rw [← HP.out, if_neg (by simp)])
          clear HP
          go_wp2_with fail
          rw [HWR.out]
          go_roundw
          case rel => exact ⟨k + 1, by omega, by go_num, by rw [HRR.out]; exact HV.out, HBW.out _ hq0⟩
          case measure => simp [intOf]; omega
        · have ht1 : (tgt != 0) = true := by simpa using ht
          by_cases hn : 0 ≤ N2
          · have HV := Lib.hid (show R = G by rw [← HP.out, if_neg (by simp [hn])])
            have hnd : decide (N2 < 0) = false := by simp; omega
            clear HP ht
            go_wp2_with fail
            rw [HWR.out]
            refine (HCB.out _ (HBW.out _ hq0)).mono ?_
            rintro e w5 ⟨rfl, hb5⟩
            have hq5 := HCH.out _ _ hq0 hb5
            clear hb5
            go_wp2_with fail
            go_roundw
            case rel => exact ⟨k + 1, by omega, by go_num, by rw [HRR.out]; exact HV.out, HBW.out _ hq5⟩
            case measure => simp [intOf]; omega
          · have HV := Lib.hid (show (6 : Int) = G by rw [← HP.out, if_pos (by simp [hn, ht])])
            have hnd : decide (N2 < 0) = true := by simp; omega
            clear HP ht
            go_wp2_with fail
            rw [HWR.out]
            refine (HCB.out _ (HBW.out _ hq0)).mono ?_
            rintro e w5 ⟨rfl, hb5⟩
            have hq5 := HCH.out _ _ hq0 hb5
            clear hb5
            go_wp2_with fail
            have hq := HQ.out _ (HB.out _ (HBW.out _ hq5))
            rw [← HV.out] at hq
            exact hq
      · have hs1 : (st != 4) = true := by simpa using hs
        by_cases hm : 0 ≤ N1
        · have hmd : decide (N1 < 0) = false := by simp; omega
          by_cases ht : tgt = 0
          · subst ht
            have HV := Lib.hid (show R = G by rw [← HP.out, if_neg (by simp [hm])])
            clear HP hs
            go_wp2_with fail
            rw [HWR.out]
            refine (HCA.out _ (HBW.out _ hq0)).mono ?_
            rintro e w5 ⟨rfl, hb5⟩
            have hq5 := HCH.out _ _ hq0 hb5
            clear hb5
            go_wp2_with fail
            go_roundw
            case rel => exact ⟨k + 1, by omega, by go_num, by rw [HRR.out]; exact HV.out, HBW.out _ hq5⟩
            case measure => simp [intOf]; omega
          · have ht1 : (tgt != 0) = true := by simpa using ht
            by_cases hn : 0 ≤ N2
            · have HV := Lib.hid (show R = G by rw [← HP.out, if_neg (by simp [hn, hm])])
              have hnd : decide (N2 < 0) = false := by simp; omega
              clear HP ht hs
              go_wp2_with fail
              rw [HWR.out]
              refine (HCA.out _ (HBW.out _ hq0)).mono ?_
              rintro e w5 ⟨rfl, hb5⟩
              have hq5 := HCH.out _ _ hq0 hb5
              clear hb5
              go_wp2_with fail
              refine (HCB.out _ (HBW.out _ hq5)).mono ?_
              rintro e w6 ⟨rfl, hb6⟩
              have hq6 := HCH.out _ _ hq5 hb6
              clear hb6
              go_wp2_with fail
              go_roundw
              case rel => exact ⟨k + 1, by omega, by go_num, by rw [HRR.out]; exact HV.out, HBW.out _ hq6⟩
              case measure => simp [intOf]; omega
            · have HV := Lib.hid (show (6 : Int) = G by rw [← HP.out, if_pos (by simp [hn, ht])])
              have hnd : decide (N2 < 0) = true := by simp; omega
              clear HP ht hs
              go_wp2_with fail
              rw [HWR.out]
              refine (HCA.out _ (HBW.out _ hq0)).mono ?_
              rintro e w5 ⟨rfl, hb5⟩
              have hq5 := HCH.out _ _ hq0 hb5
              clear hb5
              go_wp2_with fail
              refine (HCB.out _ (HBW.out _ hq5)).mono ?_
              rintro e w6 ⟨rfl, hb6⟩
              have hq6 := HCH.out _ _ hq5 hb6
              clear hb6
              go_wp2_with fail
              have hq := HQ.out _ (HB.out _ (HBW.out _ hq6))
              rw [← HV.out] at hq
              exact hq
        · have HV := Lib.hid (show (6 : Int) = G by rw [← HP.out, if_pos (by simp [hm, hs])])
          have hmd : decide (N1 < 0) = true := by simp; omega
          clear HP hs
          go_wp2_with fail
          rw [HWR.out]
          refine (HCA.out _ (HBW.out _ hq0)).mono ?_
          rintro e w5 ⟨rfl, hb5⟩
          have hq5 := HCH.out _ _ hq0 hb5
          clear hb5
          go_wp2_with fail
          have hq := HQ.out _ (HB.out _ (HBW.out _ hq5))
          rw [← HV.out] at hq
          exact hq
    · obtain rfl : k = xs.length := by omega
      rw [firstBad_end] at hp
      unfold chk2 at hp
      clear hlt hk
      have H00 := Lib.hid (show firstBad (badState evs) 17 (xs.drop 0) (chk3 xs evs evs') = G from hp)
      have HBB := Lib.hid hb
      clear hp
      go_wp2_with fail
      obtain ⟨wo2, rfl⟩ : ∃ wo : World, wo = wr := ⟨_, rfl⟩
      clear hb hba
      go_loopw [61] (fun i wr => ∃ k : Nat, k ≤ xs.length ∧ i = .int .i64 k ∧ firstBad (badState evs) 17 (xs.drop k) (chk3 xs evs evs') = G ∧ Below (w.heap.size + 2) W0 wr) (fun i _ => xs.length - (intOf i).toNat)
      case atStart => exact ⟨0, by omega, rfl, H00.out, HBB.out⟩
      case round =>
        obtain ⟨k, hk, rfl, hp, hb⟩ := hrel
        clear H00 HBB
        have hba := hb
        by_cases hlt : k < xs.length
        · obtain ⟨b, off, x, he, hbl, hxk, hc, _⟩ := (HX.out.later (HB.out _ hb)).at_ hlt
          rw [firstBad_at _ _ xs _ k x hxk] at hp
          obtain ⟨tpl, tgt, st⟩ := x
          have d0 := hc 0 _ rfl; have d1 := hc 1 _ rfl; have d2 := hc 2 _ rfl
          simp only [Nat.add_zero] at d0 d1 d2
          subst he
          have HC := Lib.hid (fun (w1 : World) (h : Below (w.heap.size + 2) W0 w1) => HF1.out tpl w1 (HB.out _ h))
          generalize hR : firstBad (badState evs) 17 (xs.drop (k + 1)) (chk3 xs evs evs') = R at hp
          have HRR := Lib.hid hR
          clear hR
          unfold badState at hp
          simp only at hp
          generalize posOf (hasId tpl) evs = N at *
          have HP := Lib.hid hp
          clear hc hxk hp
          have hbs := HLT.out _ hb
          have hbL : ∀ o : Obj, Below (w.heap.size + 2) W0 (wr.alloc o) := fun o => hb.alloc hbs o
          have HBW := Lib.hid (fun (w' : World) (h : Below (wr.heap.size + 1) (wr.alloc (.cells #[.int .i64 tpl, .int .i64 tgt, .int .u8 st] 49)) w') => ((hb.alloc hbs _).trans (h.mono (by omega)) : Below (w.heap.size + 2) W0 w'))
          have HCH := Lib.hid (fun (w2 w3 : World) (h : Below (wr.heap.size + 1) (wr.alloc (.cells #[.int .i64 tpl, .int .i64 tgt, .int .u8 st] 49)) w2) (h3 : Below w2.heap.size w2 w3) => h.trans (h3.mono (by have := h.size; rw [World.size_alloc] at this; exact this)))
          have x0 := box_cell wr #[.int .i64 tpl, .int .i64 tgt, .int .u8 st] 49 0 _ rfl
          have x1 := box_cell wr #[.int .i64 tpl, .int .i64 tgt, .int .u8 st] 49 1 _ rfl
          have x2 := box_cell wr #[.int .i64 tpl, .int .i64 tgt, .int .u8 st] 49 2 _ rfl
          have u0 := fun w' h => f0 w' (HBW.out w' h); have v0 := fun w' h => g0 w' (HBW.out w' h)
          have u1 := fun w' h => f1 w' (HBW.out w' h); have v1 := fun w' h => g1 w' (HBW.out w' h)
          have u2 := fun w' h => f2 w' (HBW.out w' h); have v2 := fun w' h => g2 w' (HBW.out w' h)
          have u3 := fun w' h => f3 w' (HBW.out w' h); have v3 := fun w' h => g3 w' (HBW.out w' h)
          have u4 := fun w' h => f4 w' (HBW.out w' h); have v4 := fun w' h => g4 w' (HBW.out w' h)
          have u5 := fun w' h => f5 w' (HBW.out w' h); have v5 := fun w' h => g5 w' (HBW.out w' h)
          have u6 := fun w' h => f6 w' (HBW.out w' h); have v6 := fun w' h => g6 w' (HBW.out w' h)
          have u7 := fun w' h => f7 w' (HBW.out w' h); have v7 := fun w' h => g7 w' (HBW.out w' h)
          have hq0 : Below (wr.heap.size + 1) (wr.alloc (.cells #[.int .i64 tpl, .int .i64 tgt, .int .u8 st] 49)) (wr.alloc (.cells #[.int .i64 tpl, .int .i64 tgt, .int .u8 st] 49)) := Below.refl _ _
          generalize hWR : wr.alloc (.cells #[.int .i64 tpl, .int .i64 tgt, .int .u8 st] 49) = WR at HBW HCH x0 x1 x2 u0 u1 u2 u3 u4 u5 u6 u7 v0 v1 v2 v3 v4 v5 v6 v7 hq0
          have HWR := Lib.hid hWR
          clear hWR
          by_cases hs : st = 4
          · subst hs
            by_cases hN : 0 ≤ N
            · have HV := Lib.hid (show (17 : Int) = G by rw [← HP.out, if_pos (by simp [hN])])
              clear HP
              go_wp2_with fail
              rw [HWR.out]
              refine (HC.out _ (HBW.out _ hq0)).mono ?_
              rintro e w5 ⟨rfl, hb5⟩
              have hq5 := HCH.out _ _ hq0 hb5
              clear hb5
              go_wp2_with fail
              have hq := HQ.out _ (HB.out _ (HBW.out _ hq5))
              rw [← HV.out] at hq
              exact hq
            · have HV := Lib.hid (show R = G by rw [← HP.out, if_neg (by simp [hN])])
              have hNd : decide (0 ≤ N) = false := by simpa using hN
              clear HP
              go_wp2_with fail
              rw [HWR.out]
              refine (HC.out _ (HBW.out _ hq0)).mono ?_
              rintro e w5 ⟨rfl, hb5⟩
              have hq5 := HCH.out _ _ hq0 hb5
              clear hb5
              go_wp2_with fail
              go_roundw
              case rel => exact ⟨k + 1, by omega, by go_num, by rw [HRR.out]; exact HV.out, HBW.out _ hq5⟩
              case measure => simp [intOf]; omega
          · have hs2 : (st == 4) = false := by simpa using hs
            have HV := Lib.hid (show R = G by rw [← HP.out, if_neg (by simp [hs])])
            clear HP hs
            go_wp2_with fail
            rw [HWR.out]
            go_roundw
            case rel => exact ⟨k + 1, by omega, by go_num, by rw [HRR.out]; exact HV.out, HBW.out _ hq0⟩
            case measure => simp [intOf]; omega
        · obtain rfl : k = xs.length := by omega
          rw [firstBad_end] at hp
          unfold chk3 at hp
          clear hlt hk
          have H00 := Lib.hid (show firstBad (badTpl xs) 7 (evs.drop 0) (chk4 xs evs') = G from hp)
          have HBB := Lib.hid hb
          clear hp
          go_wp2_with fail
          obtain ⟨wo3, rfl⟩ : ∃ wo : World, wo = wr := ⟨_, rfl⟩
          clear hb hba
          go_loopw [79] (fun i wr => ∃ k : Nat, k ≤ evs.length ∧ i = .int .i64 k ∧ firstBad (badTpl xs) 7 (evs.drop k) (chk4 xs evs') = G ∧ Below (w.heap.size + 2) W0 wr) (fun i _ => evs.length - (intOf i).toNat)
          case atStart => exact ⟨0, by omega, rfl, H00.out, HBB.out⟩
          case round =>
            obtain ⟨k, hk, rfl, hp, hb⟩ := hrel
            clear H00 HBB
            have hba := hb
            by_cases hlt : k < evs.length
            · obtain ⟨b, off, x, he, hbl, hxk, hc, _⟩ := (HEV.out.later (HB.out _ hb)).at_ hlt
              rw [firstBad_at _ _ evs _ k x hxk] at hp
              obtain ⟨xid, xin, xout, xreg, xkind, xsp, xa, xc, xrows⟩ := x
              have d0 := hc 0 _ rfl; have d1 := hc 1 _ rfl; have d2 := hc 2 _ rfl; have d3 := hc 3 _ rfl; have d4 := hc 4 _ rfl; have d5 := hc 5 _ rfl; have d6 := hc 6 _ rfl
              simp only [Nat.add_zero] at d0 d1 d2 d3 d4 d5 d6
              subst he
              have HC := Lib.hid (fun (w1 : World) (h : Below (w.heap.size + 2) W0 w1) => HFI.out xid w1 (HB.out _ h))
              generalize hR : firstBad (badTpl xs) 7 (evs.drop (k + 1)) (chk4 xs evs') = R at hp
              have HRR := Lib.hid hR
              clear hR
              unfold badTpl at hp
              simp only at hp
              generalize posOf (hasTpl xid) xs = N at *
              have HP := Lib.hid hp
              clear hc hxk hp
              have hbs := HLT.out _ hb
              have hbL : ∀ o : Obj, Below (w.heap.size + 2) W0 (wr.alloc o) := fun o => hb.alloc hbs o
              have HBW := Lib.hid (fun (w' : World) (h : Below (wr.heap.size + 1) (wr.alloc (.cells #[.int .i64 xid, .int .i64 xin, .int .i64 xout, .string xreg, .int .u8 xkind, .string xsp, .slice xa xrows.length xc] 60)) w') => ((hb.alloc hbs _).trans (h.mono (by omega)) : Below (w.heap.size + 2) W0 w'))
              have HCH := Lib.hid (fun (w2 w3 : World) (h : Below (wr.heap.size + 1) (wr.alloc (.cells #[.int .i64 xid, .int .i64 xin, .int .i64 xout, .string xreg, .int .u8 xkind, .string xsp, .slice xa xrows.length xc] 60)) w2) (h3 : Below w2.heap.size w2 w3) => h.trans (h3.mono (by have := h.size; rw [World.size_alloc] at this; exact this)))
              have x0 := box_cell wr #[.int .i64 xid, .int .i64 xin, .int .i64 xout, .string xreg, .int .u8 xkind, .string xsp, .slice xa xrows.length xc] 60 0 _ rfl
              have x1 := box_cell wr #[.int .i64 xid, .int .i64 xin, .int .i64 xout, .string xreg, .int .u8 xkind, .string xsp, .slice xa xrows.length xc] 60 1 _ rfl
              have x2 := box_cell wr #[.int .i64 xid, .int .i64 xin, .int .i64 xout, .string xreg, .int .u8 xkind, .string xsp, .slice xa xrows.length xc] 60 2 _ rfl
              have x3 := box_cell wr #[.int .i64 xid, .int .i64 xin, .int .i64 xout, .string xreg, .int .u8 xkind, .string xsp, .slice xa xrows.length xc] 60 3 _ rfl
              have x4 := box_cell wr #[.int .i64 xid, .int .i64 xin, .int .i64 xout, .string xreg, .int .u8 xkind, .string xsp, .slice xa xrows.length xc] 60 4 _ rfl
              have x5 := box_cell wr #[.int .i64 xid, .int .i64 xin, .int .i64 xout, .string xreg, .int .u8 xkind, .string xsp, .slice xa xrows.length xc] 60 5 _ rfl
              have x6 := box_cell wr #[.int .i64 xid, .int .i64 xin, .int .i64 xout, .string xreg, .int .u8 xkind, .string xsp, .slice xa xrows.length xc] 60 6 _ rfl
              have u0 := fun w' h => f0 w' (HBW.out w' h); have v0 := fun w' h => g0 w' (HBW.out w' h)
              have u1 := fun w' h => f1 w' (HBW.out w' h); have v1 := fun w' h => g1 w' (HBW.out w' h)
              have u2 := fun w' h => f2 w' (HBW.out w' h); have v2 := fun w' h => g2 w' (HBW.out w' h)
              have u3 := fun w' h => f3 w' (HBW.out w' h); have v3 := fun w' h => g3 w' (HBW.out w' h)
              have u4 := fun w' h => f4 w' (HBW.out w' h); have v4 := fun w' h => g4 w' (HBW.out w' h)
              have u5 := fun w' h => f5 w' (HBW.out w' h); have v5 := fun w' h => g5 w' (HBW.out w' h)
              have u6 := fun w' h => f6 w' (HBW.out w' h); have v6 := fun w' h => g6 w' (HBW.out w' h)
              have u7 := fun w' h => f7 w' (HBW.out w' h); have v7 := fun w' h => g7 w' (HBW.out w' h)
              have hq0 : Below (wr.heap.size + 1) (wr.alloc (.cells #[.int .i64 xid, .int .i64 xin, .int .i64 xout, .string xreg, .int .u8 xkind, .string xsp, .slice xa xrows.length xc] 60)) (wr.alloc (.cells #[.int .i64 xid, .int .i64 xin, .int .i64 xout, .string xreg, .int .u8 xkind, .string xsp, .slice xa xrows.length xc] 60)) := Below.refl _ _
              generalize hWR : wr.alloc (.cells #[.int .i64 xid, .int .i64 xin, .int .i64 xout, .string xreg, .int .u8 xkind, .string xsp, .slice xa xrows.length xc] 60) = WR at HBW HCH x0 x1 x2 u0 u1 u2 u3 u4 u5 u6 u7 v0 v1 v2 v3 v4 v5 v6 v7 hq0 x3 x4 x5 x6
              have HWR := Lib.hid hWR
              clear hWR
              by_cases hN : N < 0
              · have HV := Lib.hid (show (7 : Int) = G by rw [← HP.out, if_pos (by simpa using hN)])
                clear HP
                go_wp2_with fail
                rw [HWR.out]
                refine (HC.out _ (HBW.out _ hq0)).mono ?_
                rintro e w5 ⟨rfl, hb5⟩
                have hq5 := HCH.out _ _ hq0 hb5
                clear hb5
                go_wp2_with fail
                have hq := HQ.out _ (HB.out _ (HBW.out _ hq5))
                rw [← HV.out] at hq
                exact hq
              · have HV := Lib.hid (show R = G by rw [← HP.out, if_neg (by simpa using hN)])
                have hN2 : 0 ≤ N := by omega
                clear HP
                go_wp2_with fail
                rw [HWR.out]
                refine (HC.out _ (HBW.out _ hq0)).mono ?_
                rintro e w5 ⟨rfl, hb5⟩
                have hq5 := HCH.out _ _ hq0 hb5
                clear hb5
                go_wp2_with fail
                go_roundw
                case rel => exact ⟨k + 1, by omega, by go_num, by rw [HRR.out]; exact HV.out, HBW.out _ hq5⟩
                case measure => simp [intOf]; omega
            · obtain rfl : k = evs.length := by omega
              rw [firstBad_end] at hp
              unfold chk4 at hp
              clear hlt hk
              have H00 := Lib.hid (show firstBad (badTgt xs) 7 (evs'.drop 0) 0 = G from hp)
              have HBB := Lib.hid hb
              clear hp
              go_wp2_with fail
              obtain ⟨wo4, rfl⟩ : ∃ wo : World, wo = wr := ⟨_, rfl⟩
              clear hb hba
              go_loopw [92] (fun i wr => ∃ k : Nat, k ≤ evs'.length ∧ i = .int .i64 k ∧ firstBad (badTgt xs) 7 (evs'.drop k) 0 = G ∧ Below (w.heap.size + 2) W0 wr) (fun i _ => evs'.length - (intOf i).toNat)
              case atStart => exact ⟨0, by omega, rfl, H00.out, HBB.out⟩
              case round =>
                obtain ⟨k, hk, rfl, hp, hb⟩ := hrel
                clear H00 HBB
                have HXX := Lib.hid hb
                by_cases hlt : k < evs'.length
                · obtain ⟨b, off, x, he, hbl, hxk, hc, _⟩ := (HEV'.out.later (HB.out _ hb)).at_ hlt
                  rw [firstBad_at _ _ evs' _ k x hxk] at hp
                  obtain ⟨xid, xin, xout, xreg, xkind, xsp, xa, xc, xrows⟩ := x
                  have d0 := hc 0 _ rfl; have d1 := hc 1 _ rfl; have d2 := hc 2 _ rfl; have d3 := hc 3 _ rfl; have d4 := hc 4 _ rfl; have d5 := hc 5 _ rfl; have d6 := hc 6 _ rfl
                  simp only [Nat.add_zero] at d0 d1 d2 d3 d4 d5 d6
                  subst he
                  have HC := Lib.hid (fun (w1 : World) (h : Below (w.heap.size + 2) W0 w1) => HAI.out xid w1 (HB.out _ h))
                  generalize hR : firstBad (badTgt xs) 7 (evs'.drop (k + 1)) 0 = R at hp
                  have HRR := Lib.hid hR
                  clear hR
                  unfold badTgt at hp
                  simp only at hp
                  rw [aimB_at] at HC
                  generalize aimAt xs xs.length xid = N at *
                  have HP := Lib.hid hp
                  clear hc hxk hp HXX
                  have hbs := HLT.out _ hb
                  have hbL : ∀ o : Obj, Below (w.heap.size + 2) W0 (wr.alloc o) := fun o => hb.alloc hbs o
                  have HBW := Lib.hid (fun (w' : World) (h : Below (wr.heap.size + 1) (wr.alloc (.cells #[.int .i64 xid, .int .i64 xin, .int .i64 xout, .string xreg, .int .u8 xkind, .string xsp, .slice xa xrows.length xc] 60)) w') => ((hb.alloc hbs _).trans (h.mono (by omega)) : Below (w.heap.size + 2) W0 w'))
                  have HCH := Lib.hid (fun (w2 w3 : World) (h : Below (wr.heap.size + 1) (wr.alloc (.cells #[.int .i64 xid, .int .i64 xin, .int .i64 xout, .string xreg, .int .u8 xkind, .string xsp, .slice xa xrows.length xc] 60)) w2) (h3 : Below w2.heap.size w2 w3) => h.trans (h3.mono (by have := h.size; rw [World.size_alloc] at this; exact this)))
                  have x0 := box_cell wr #[.int .i64 xid, .int .i64 xin, .int .i64 xout, .string xreg, .int .u8 xkind, .string xsp, .slice xa xrows.length xc] 60 0 _ rfl
                  have x1 := box_cell wr #[.int .i64 xid, .int .i64 xin, .int .i64 xout, .string xreg, .int .u8 xkind, .string xsp, .slice xa xrows.length xc] 60 1 _ rfl
                  have x2 := box_cell wr #[.int .i64 xid, .int .i64 xin, .int .i64 xout, .string xreg, .int .u8 xkind, .string xsp, .slice xa xrows.length xc] 60 2 _ rfl
                  have x3 := box_cell wr #[.int .i64 xid, .int .i64 xin, .int .i64 xout, .string xreg, .int .u8 xkind, .string xsp, .slice xa xrows.length xc] 60 3 _ rfl
                  have x4 := box_cell wr #[.int .i64 xid, .int .i64 xin, .int .i64 xout, .string xreg, .int .u8 xkind, .string xsp, .slice xa xrows.length xc] 60 4 _ rfl
                  have x5 := box_cell wr #[.int .i64 xid, .int .i64 xin, .int .i64 xout, .string xreg, .int .u8 xkind, .string xsp, .slice xa xrows.length xc] 60 5 _ rfl
                  have x6 := box_cell wr #[.int .i64 xid, .int .i64 xin, .int .i64 xout, .string xreg, .int .u8 xkind, .string xsp, .slice xa xrows.length xc] 60 6 _ rfl
                  have u0 := fun w' h => f0 w' (HBW.out w' h); have v0 := fun w' h => g0 w' (HBW.out w' h)
                  have u1 := fun w' h => f1 w' (HBW.out w' h); have v1 := fun w' h => g1 w' (HBW.out w' h)
                  have u2 := fun w' h => f2 w' (HBW.out w' h); have v2 := fun w' h => g2 w' (HBW.out w' h)
                  have u3 := fun w' h => f3 w' (HBW.out w' h); have v3 := fun w' h => g3 w' (HBW.out w' h)
                  have u4 := fun w' h => f4 w' (HBW.out w' h); have v4 := fun w' h => g4 w' (HBW.out w' h)
                  have u5 := fun w' h => f5 w' (HBW.out w' h); have v5 := fun w' h => g5 w' (HBW.out w' h)
                  have u6 := fun w' h => f6 w' (HBW.out w' h); have v6 := fun w' h => g6 w' (HBW.out w' h)
                  have u7 := fun w' h => f7 w' (HBW.out w' h); have v7 := fun w' h => g7 w' (HBW.out w' h)
                  have hq0 : Below (wr.heap.size + 1) (wr.alloc (.cells #[.int .i64 xid, .int .i64 xin, .int .i64 xout, .string xreg, .int .u8 xkind, .string xsp, .slice xa xrows.length xc] 60)) (wr.alloc (.cells #[.int .i64 xid, .int .i64 xin, .int .i64 xout, .string xreg, .int .u8 xkind, .string xsp, .slice xa xrows.length xc] 60)) := Below.refl _ _
                  generalize hWR : wr.alloc (.cells #[.int .i64 xid, .int .i64 xin, .int .i64 xout, .string xreg, .int .u8 xkind, .string xsp, .slice xa xrows.length xc] 60) = WR at HBW HCH x0 x1 x2 u0 u1 u2 u3 u4 u5 u6 u7 v0 v1 v2 v3 v4 v5 v6 v7 hq0 x3 x4 x5 x6
                  have HWR := Lib.hid hWR
                  clear hWR
                  cases N
                  · have HV := Lib.hid (show (7 : Int) = G by rw [← HP.out, if_pos (by decide)])
                    clear HP
                    go_wp2_with fail
                    rw [HWR.out]
                    refine (HC.out _ (HBW.out _ hq0)).mono ?_
                    rintro e w5 ⟨rfl, hb5⟩
                    have hq5 := HCH.out _ _ hq0 hb5
                    clear hb5
                    go_wp2_with fail
                    have hq := HQ.out _ (HB.out _ (HBW.out _ hq5))
                    rw [← HV.out] at hq
                    exact hq
                  · have HV := Lib.hid (show R = G by rw [← HP.out, if_neg (by decide)])
                    clear HP
                    go_wp2_with fail
                    rw [HWR.out]
                    refine (HC.out _ (HBW.out _ hq0)).mono ?_
                    rintro e w5 ⟨rfl, hb5⟩
                    have hq5 := HCH.out _ _ hq0 hb5
                    clear hb5
                    go_wp2_with fail
                    go_roundw
                    case rel => exact ⟨k + 1, by omega, by go_num, by rw [HRR.out]; exact HV.out, HBW.out _ hq5⟩
                    case measure => simp [intOf]; omega
                · obtain rfl : k = evs'.length := by omega
                  rw [firstBad_end] at hp
                  have HV := Lib.hid hp
                  clear hp
                  go_wp2_with fail
                  have hq := HQ.out _ (HB.out _ hb)
                  rw [← HV.out] at hq
                  exact hq

theorem refCheck_calls (a : Option Addr) (cap : Nat) (xs : List Lk) (d d' : Doc) (w : World) (hE : Env w) (hx : LksAt w a xs) (hfx : ∀ x ∈ xs, x.fits) (hlx : xs.length ≤ 4000000) (hcap : xs.length ≤ cap) (hd : d.lies w) (hd' : d'.lies w) (hf : d.fits) (hf' : d'.fits) :
    Calls Tryz.prog 13 #[.slice a xs.length cap, .agg d.enc.toArray, .agg d'.enc.toArray] w fun e w' => e = .returned (.int .i64 (chkErr xs d d')) ∧ Below w.heap.size w w' := by
  cases h1 : formB xs
  · exact refCheck_bad a cap xs d d' w hE hx hfx hlx hcap hd hd' hf hf' (.inl h1)
  · by_cases h2 : docErr d = 0
    · by_cases h3 : docErr d' = 0
      · exact refCheck_good a cap xs d d' w hE hx hfx hlx hcap hd hd' hf hf' h1 h2 h3
      · exact refCheck_bad a cap xs d d' w hE hx hfx hlx hcap hd hd' hf hf' (.inr ⟨h1, .inr ⟨h2, by simpa using h3⟩⟩)
    · exact refCheck_bad a cap xs d d' w hE hx hfx hlx hcap hd hd' hf hf' (.inr ⟨h1, .inl (by simpa using h2)⟩)


end Go.Proofs.YtdgakmpopgpijaaGreatDoor

/- The contracts of Count and Complete of links, the program's and the reference's. -/
namespace Go.Proofs.YtdgakmpopgpijaaGreatDoor
open Go.RowKit

/-- How many links have a state. -/
def cntL (s : Int) : List Lk → Nat
  | [] => 0
  | x :: l => if x.st = s then cntL s l + 1 else cntL s l
theorem cntL_le (s : Int) : ∀ xs, cntL s xs ≤ xs.length
  | [] => Nat.le_refl _
  | x :: l => by
    have := cntL_le s l
    unfold cntL
    split <;> simp only [List.length_cons] <;> omega

set_option maxHeartbeats 800000 in
theorem count_calls (a : Option Addr) (cap : Nat) (xs : List Lk) (s : Int) (w : World) (hr : LksAt w a xs) (hl : xs.length ≤ 4000000) :
    Calls Tryz.prog 18 #[.slice a xs.length cap, .int .u8 s] w fun e w' => e = .returned (.int .i64 (cntL s xs)) ∧ Below w.heap.size w w' := by
  generalize hG : cntL s xs = G
  have H0 := Lib.hid (show 0 + cntL s (xs.drop 0) = G by rw [List.drop_zero, Nat.zero_add]; exact hG)
  clear hG
  go_enter Tryz.func18, Tryz.ntmps18
  go_wp2_with fail
  go_loopw [5, 10] (fun v i wr => ∃ (k acc : Nat), k ≤ xs.length ∧ acc ≤ k ∧ i = .int .i64 k ∧ v = .int .i64 acc ∧ acc + cntL s (xs.drop k) = G ∧ Below w.heap.size w wr) (fun _ i _ => xs.length - (intOf i).toNat)
  case atStart => exact ⟨0, 0, by omega, by omega, rfl, rfl, H0.out, Below.refl _ _⟩
  case round =>
    obtain ⟨k, acc, hk, hak, rfl, rfl, hp, hb⟩ := hrel
    by_cases hlt : k < xs.length
    · obtain ⟨b, off, x, rfl, hbl, hx, hc, _⟩ := (hr.later hb).at_ hlt
      rw [drop_at xs k x hx, cntL] at hp
      obtain ⟨tpl, tgt, st⟩ := x
      have d0 := hc 0 _ rfl; have d1 := hc 1 _ rfl; have d2 := hc 2 _ rfl
      simp only [Nat.add_zero] at d0 d1 d2
      simp only at hp
      have HB := Lib.hid (fun o => hb.alloc hb.size o)
      by_cases ht : st = s
      · subst ht
        rw [if_pos rfl] at hp
        have HP := Lib.hid (show acc + 1 + cntL st (xs.drop (k + 1)) = G by omega)
        clear hc hx hp H0
        go_wp2_with fail
        go_roundw
        case rel => exact ⟨k + 1, acc + 1, by omega, by omega, by go_num, by go_num, HP.out, HB.out _⟩
        case measure => simp [intOf]; omega
      · have ht' : (st == s) = false := by simpa using ht
        rw [if_neg ht] at hp
        have HP := Lib.hid hp
        clear hc hx hp H0 ht
        go_wp2_with fail
        go_roundw
        case rel => exact ⟨k + 1, acc, by omega, by omega, by go_num, rfl, HP.out, HB.out _⟩
        case measure => simp [intOf]; omega
    · obtain rfl : k = xs.length := by omega
      rw [List.drop_length, cntL, Nat.add_zero] at hp
      subst hp
      clear H0
      go_wp2_with fail
      go_ret
      exact ⟨rfl, hb⟩

set_option maxHeartbeats 800000 in
theorem refCount_calls (a : Option Addr) (cap : Nat) (xs : List Lk) (s : Int) (w : World) (hr : LksAt w a xs) (hl : xs.length ≤ 4000000) :
    Calls Tryz.prog 19 #[.slice a xs.length cap, .int .u8 s] w fun e w' => e = .returned (.int .i64 (cntL s xs)) ∧ Below w.heap.size w w' := by
  generalize hG : cntL s xs = G
  have H0 := Lib.hid (show 0 + cntL s (xs.drop 0) = G by rw [List.drop_zero, Nat.zero_add]; exact hG)
  clear hG
  go_enter Tryz.func19, Tryz.ntmps19
  go_wp2_with fail
  go_loopw [5, 10] (fun v i wr => ∃ (k acc : Nat), k ≤ xs.length ∧ acc ≤ k ∧ i = .int .i64 k ∧ v = .int .i64 acc ∧ acc + cntL s (xs.drop k) = G ∧ Below w.heap.size w wr) (fun _ i _ => xs.length - (intOf i).toNat)
  case atStart => exact ⟨0, 0, by omega, by omega, rfl, rfl, H0.out, Below.refl _ _⟩
  case round =>
    obtain ⟨k, acc, hk, hak, rfl, rfl, hp, hb⟩ := hrel
    by_cases hlt : k < xs.length
    · obtain ⟨b, off, x, rfl, hbl, hx, hc, _⟩ := (hr.later hb).at_ hlt
      rw [drop_at xs k x hx, cntL] at hp
      obtain ⟨tpl, tgt, st⟩ := x
      have d0 := hc 0 _ rfl; have d1 := hc 1 _ rfl; have d2 := hc 2 _ rfl
      simp only [Nat.add_zero] at d0 d1 d2
      simp only at hp
      have HB := Lib.hid (fun o => hb.alloc hb.size o)
      by_cases ht : st = s
      · subst ht
        rw [if_pos rfl] at hp
        have HP := Lib.hid (show acc + 1 + cntL st (xs.drop (k + 1)) = G by omega)
        clear hc hx hp H0
        go_wp2_with fail
        go_roundw
        case rel => exact ⟨k + 1, acc + 1, by omega, by omega, by go_num, by go_num, HP.out, HB.out _⟩
        case measure => simp [intOf]; omega
      · have ht' : (st == s) = false := by simpa using ht
        rw [if_neg ht] at hp
        have HP := Lib.hid hp
        clear hc hx hp H0 ht
        go_wp2_with fail
        go_roundw
        case rel => exact ⟨k + 1, acc, by omega, by omega, by go_num, rfl, HP.out, HB.out _⟩
        case measure => simp [intOf]; omega
    · obtain rfl : k = xs.length := by omega
      rw [List.drop_length, cntL, Nat.add_zero] at hp
      subst hp
      clear H0
      go_wp2_with fail
      go_ret
      exact ⟨rfl, hb⟩

theorem complete_calls (a : Option Addr) (cap : Nat) (xs : List Lk) (w : World) (hr : LksAt w a xs) (hl : xs.length ≤ 4000000) :
    Calls Tryz.prog 16 #[.slice a xs.length cap] w fun e w' => e = .returned (.bool (decide (cntL 1 xs = xs.length))) ∧ Below w.heap.size w w' := by
  have HC := Lib.hid (count_calls a cap xs 1 w hr hl)
  generalize cntL 1 xs = C at *
  have HD := Lib.hid (show ((C : Int) == (xs.length : Int)) = decide (C = xs.length) by rw [Bool.eq_iff_iff]; simp; omega)
  go_enter Tryz.func16, Tryz.ntmps16
  go_wp2_with fail
  refine HC.out.mono ?_
  rintro e w1 ⟨rfl, hb⟩
  go_wp2_with fail
  go_ret
  rw [← HD.out]
  exact ⟨rfl, hb⟩

theorem refComplete_calls (a : Option Addr) (cap : Nat) (xs : List Lk) (w : World) (hr : LksAt w a xs) (hl : xs.length ≤ 4000000) :
    Calls Tryz.prog 17 #[.slice a xs.length cap] w fun e w' => e = .returned (.bool (decide (cntL 1 xs = xs.length))) ∧ Below w.heap.size w w' := by
  have HC := Lib.hid (refCount_calls a cap xs 1 w hr hl)
  generalize cntL 1 xs = C at *
  have HD := Lib.hid (show ((C : Int) == (xs.length : Int)) = decide (C = xs.length) by rw [Bool.eq_iff_iff]; simp; omega)
  go_enter Tryz.func17, Tryz.ntmps17
  go_wp2_with fail
  refine HC.out.mono ?_
  rintro e w1 ⟨rfl, hb⟩
  go_wp2_with fail
  go_ret
  rw [← HD.out]
  exact ⟨rfl, hb⟩


end Go.Proofs.YtdgakmpopgpijaaGreatDoor

/- The contract of the law AlignChecks: it returns true. -/
namespace Go.Proofs.YtdgakmpopgpijaaGreatDoor
open Go.RowKit

/-! ### the IDs of a document, ascending -/
theorem putL_mem (id y : Int) : ∀ zs, y ∈ putL zs id ↔ y = id ∨ y ∈ zs
  | [] => by simp [putL]
  | z :: l => by
    have ih := putL_mem id y l
    unfold putL
    split
    · rw [List.mem_cons, ih, List.mem_cons]
      constructor
      · rintro (h | h | h)
        · exact .inr (.inl h)
        · exact .inl h
        · exact .inr (.inr h)
      · rintro (h | h | h)
        · exact .inr (.inl h)
        · exact .inl h
        · exact .inr (.inr h)
    · split
      · rename_i h
        subst h
        simp
      · simp
theorem putL_asc (id : Int) : ∀ zs : List Int, zs.Pairwise (· < ·) → (putL zs id).Pairwise (· < ·)
  | [], _ => by simp [putL]
  | z :: l, h => by
    rw [List.pairwise_cons] at h
    unfold putL
    split
    · rename_i hz
      rw [List.pairwise_cons]
      refine ⟨fun y hy => ?_, putL_asc id l h.2⟩
      rcases (putL_mem id y l).1 hy with rfl | hy
      · exact hz
      · exact h.1 y hy
    · split
      · rw [List.pairwise_cons]; exact h
      · rename_i h1 h2
        rw [List.pairwise_cons, List.pairwise_cons]
        refine ⟨fun y hy => ?_, h⟩
        rcases List.mem_cons.1 hy with rfl | hy
        · omega
        · have := h.1 y hy
          omega
theorem insAll_mem (y : Int) : ∀ (evs : List Ev) (zs : List Int), y ∈ insAll zs evs ↔ y ∈ zs ∨ y ∈ idsOf evs
  | [], zs => by simp [insAll, idsOf]
  | x :: l, zs => by
    rw [insAll, insAll_mem y l, putL_mem]
    simp only [idsOf, List.map_cons, List.mem_cons]
    constructor
    · rintro ((h | h) | h)
      · exact .inr (.inl h)
      · exact .inl h
      · exact .inr (.inr h)
    · rintro (h | h | h)
      · exact .inl (.inr h)
      · exact .inl (.inl h)
      · exact .inr h
theorem insAll_asc : ∀ (evs : List Ev) (zs : List Int), zs.Pairwise (· < ·) → (insAll zs evs).Pairwise (· < ·)
  | [], zs, h => h
  | x :: l, zs, h => insAll_asc l _ (putL_asc x.id zs h)
theorem ids_same {d : Doc} (h : docErr d = 0) : sortI (idsOf d.evs) = insAll (insAll [] d.evs) d.evs := by
  have asc : (insAll (insAll [] d.evs) d.evs).Pairwise (· < ·) := insAll_asc _ _ (insAll_asc _ _ .nil)
  have nd : (idsOf d.evs).Nodup := by
    unfold idsOf List.Nodup
    rw [List.pairwise_map]
    exact doc_nodup h
  have nd2 : (insAll (insAll [] d.evs) d.evs).Nodup := asc.imp fun h => by omega
  have mem : ∀ z, z ∈ idsOf d.evs ↔ z ∈ insAll (insAll [] d.evs) d.evs := fun z => by
    rw [insAll_mem, insAll_mem]
    simp
  have hp : (sortI (idsOf d.evs)).Perm (insAll (insAll [] d.evs) d.evs) := (List.mergeSort_perm _ _).trans ((List.perm_ext_iff_of_nodup nd nd2).2 mem)
  have hs : (sortI (idsOf d.evs)).Pairwise (· ≤ ·) := by
    have := List.pairwise_mergeSort (le := fun x y : Int => decide (x ≤ y)) (fun a b c h1 h2 => by simp at *; omega) (fun a b => by simp; omega) (idsOf d.evs)
    exact this.imp fun h => by simpa using h
  exact int_unique hp hs asc

def linksIf (E : Int) (ys : List Lk) : List Lk := if E = 0 then ys else []
theorem SetPost.open {E : Int} {ys : List Lk} {w w' : World} {e : Ending} (h : SetPost E ys w e w') : ∃ a c, e = .returned (.tuple #[.slice a (linksIf E ys).length c, .int .i64 E]) ∧ LksAt w' a (linksIf E ys) ∧ Below w.heap.size w w' := by
  obtain ⟨⟨v, rfl, h1, h2⟩, hb⟩ := h
  unfold linksIf
  by_cases hE : E = 0
  · obtain ⟨a, c, rfl, hy⟩ := h2 hE
    rw [if_pos hE]
    exact ⟨a, c, rfl, hy, hb⟩
  · obtain rfl := h1 hE
    rw [if_neg hE]
    exact ⟨none, 0, rfl, .inl rfl, hb⟩
theorem starts_same (d : Doc) : linksIf (docErr d) ((sortI (idsOf d.evs)).flatMap newLk) = linksIf (docErr d) ((insAll (insAll [] d.evs) d.evs).flatMap newLk) := by
  unfold linksIf
  by_cases h : docErr d = 0
  · rw [if_pos h, if_pos h, ids_same h]
  · rw [if_neg h, if_neg h]
theorem linksIf_len (d : Doc) (hl : d.evs.length ≤ 4000000) : (linksIf (docErr d) ((sortI (idsOf d.evs)).flatMap newLk)).length ≤ 8000000 := by
  unfold linksIf
  split
  · have h1 : ((sortI (idsOf d.evs)).flatMap newLk).length = (sortI (idsOf d.evs)).length := by
      generalize sortI (idsOf d.evs) = zs
      induction zs with
      | nil => rfl
      | cons z l ih => rw [List.flatMap_cons, List.length_append, ih, List.length_cons]; simp [newLk]; omega
    rw [h1, sortI_len]
    simp [idsOf]
    omega
  · simp

set_option maxRecDepth 100000 in
set_option maxHeartbeats 6400000 in
theorem checksLaw_calls (a : Option Addr) (cap : Nat) (xs : List Lk) (d d' : Doc) (id : Int) (w : World) (hE : Env w) (hx : LksAt w a xs) (hfx : ∀ x ∈ xs, x.fits) (hlx : xs.length ≤ 2000000) (hcap : xs.length ≤ cap) (hd : d.lies w) (hd' : d'.lies w) (hf : d.fits) (hf' : d'.fits) :
    Calls Tryz.prog 5 #[.slice a xs.length cap, .agg (d.enc ++ d'.enc).toArray, .int .i64 id] w fun e w' => e = .returned (.bool true) ∧ Below w.heap.size w w' := by
  have hl4 : xs.length ≤ 4000000 := by omega
  have hAW := fun (w1 : World) (h : Below w.heap.size w w1) => awake_calls w1 (hE.below h (Nat.le_refl _))
  have hK1 := fun (w1 : World) (h : Below w.heap.size w w1) => check_calls a cap xs d d' w1 (hE.below h (Nat.le_refl _)) (hx.later h) hfx hl4 (Doc.later hd h) (Doc.later hd' h) hf hf'
  have hK2 := fun (w1 : World) (h : Below w.heap.size w w1) => refCheck_calls a cap xs d d' w1 (hE.below h (Nat.le_refl _)) (hx.later h) hfx hl4 hcap (Doc.later hd h) (Doc.later hd' h) hf hf'
  have hF1 := fun (w1 : World) (h : Below w.heap.size w w1) => linkFind_calls a cap xs id w1 (hx.later h) hl4
  have hF2 := fun (w1 : World) (h : Below w.heap.size w w1) => refFind_calls a cap xs id w1 (hx.later h) hl4
  have hM1 := fun (w1 : World) (h : Below w.heap.size w w1) => complete_calls a cap xs w1 (hx.later h) hl4
  have hM2 := fun (w1 : World) (h : Below w.heap.size w w1) => refComplete_calls a cap xs w1 (hx.later h) hl4
  have hN1 := fun (s : Int) (w1 : World) (h : Below w.heap.size w w1) => count_calls a cap xs s w1 (hx.later h) hl4
  have hN2 := fun (s : Int) (w1 : World) (h : Below w.heap.size w w1) => refCount_calls a cap xs s w1 (hx.later h) hl4
  have hS1 := fun (w1 : World) (h : Below w.heap.size w w1) => (start_calls d w1 (hE.below h (Nat.le_refl _)) (Doc.later hd h) hf).mono (fun e w' h => h.open)
  have hS2 := fun (w1 : World) (h : Below w.heap.size w w1) => (refStart_calls d w1 (hE.below h (Nat.le_refl _)) (Doc.later hd h) hf).mono (fun e w' h => h.open)
  have hly := linksIf_len d hf.2.2.2.2.2.2.2.2.1
  rw [← starts_same d] at hS2
  generalize linksIf (docErr d) ((sortI (idsOf d.evs)).flatMap newLk) = Y at *
  generalize chkErr xs d d' = C at *
  generalize docErr d = DE at *
  generalize posOf (hasTpl id) xs = N at *
  generalize decide (cntL 1 xs = xs.length) = M at *
  have HSM := Lib.hid (fun (a a' : Option Addr) (c c' : Nat) (w1 : World) (h : LksAt w1 a Y) (h' : LksAt w1 a' Y) => same_links a a' c c' Y Y w1 h h' hly)
  have y1 : decide (Y = Y) = true := by simp
  rw [y1] at HSM
  have e1 : (C != C) = false := by simp
  have e2 : (N != N) = false := by simp
  have e3 : (M != M) = false := by simp
  have e4 : (DE == DE) = true := by simp
  have HQ := Lib.hid (fun w' (hb : Below w.heap.size w w') => (show (fun (e : Ending) w' => e = .returned (.bool true) ∧ Below w.heap.size w w') (.returned (.bool true)) w' from ⟨rfl, hb⟩))
  obtain ⟨title, lang, rate, drop, last, ra, rc, regs, ea, ec, evs, ca, cc, cms⟩ := d
  obtain ⟨title', lang', rate', drop', last', ra', rc', regs', ea', ec', evs', ca', cc', cms'⟩ := d'
  simp only [Doc.enc] at hK1 hK2 hS1 hS2 ⊢
  simp only [List.cons_append, List.nil_append]
  generalize hds : #[Value.string title, .string lang, .int .u8 rate, .bool drop, .int .i64 last, .slice ra regs.length rc, .slice ea evs.length ec, .slice ca cms.length cc, Value.string title', .string lang', .int .u8 rate', .bool drop', .int .i64 last', .slice ra' regs'.length rc', .slice ea' evs'.length ec', .slice ca' cms'.length cc'] = ds at *
  have f0 := box_cell w ds 30 0 (.string title) (by rw [← hds]; rfl)
  have f1 := box_cell w ds 30 1 (.string lang) (by rw [← hds]; rfl)
  have f2 := box_cell w ds 30 2 (.int .u8 rate) (by rw [← hds]; rfl)
  have f3 := box_cell w ds 30 3 (.bool drop) (by rw [← hds]; rfl)
  have f4 := box_cell w ds 30 4 (.int .i64 last) (by rw [← hds]; rfl)
  have f5 := box_cell w ds 30 5 (.slice ra regs.length rc) (by rw [← hds]; rfl)
  have f6 := box_cell w ds 30 6 (.slice ea evs.length ec) (by rw [← hds]; rfl)
  have f7 := box_cell w ds 30 7 (.slice ca cms.length cc) (by rw [← hds]; rfl)
  have f8 := box_cell w ds 30 8 (.string title') (by rw [← hds]; rfl)
  have f9 := box_cell w ds 30 9 (.string lang') (by rw [← hds]; rfl)
  have f10 := box_cell w ds 30 10 (.int .u8 rate') (by rw [← hds]; rfl)
  have f11 := box_cell w ds 30 11 (.bool drop') (by rw [← hds]; rfl)
  have f12 := box_cell w ds 30 12 (.int .i64 last') (by rw [← hds]; rfl)
  have f13 := box_cell w ds 30 13 (.slice ra' regs'.length rc') (by rw [← hds]; rfl)
  have f14 := box_cell w ds 30 14 (.slice ea' evs'.length ec') (by rw [← hds]; rfl)
  have f15 := box_cell w ds 30 15 (.slice ca' cms'.length cc') (by rw [← hds]; rfl)
  have HB := Lib.hid (fun (w1 : World) (h : Below (w.heap.size + 1) (w.alloc (.cells ds 30)) w1) => box_below h)
  have hb0 : Below (w.heap.size + 1) (w.alloc (.cells ds 30)) (w.alloc (.cells ds 30)) := Below.refl _ _
  have hsz : (w.alloc (.cells ds 30)).heap.size = w.heap.size + 1 := World.size_alloc _ _
  generalize hW0 : w.alloc (.cells ds 30) = W0 at *
  have HW0 := Lib.hid hW0
  have HLT := Lib.hid (fun (w1 : World) (h : Below (w.heap.size + 1) W0 w1) => (show w.heap.size + 1 ≤ w1.heap.size by have := h.size; rw [hsz] at this; exact this))
  have HT0 := Lib.hid (fun (w2 w3 : World) (h : Below (w.heap.size + 1) W0 w2) (h3 : Below w2.heap.size w2 w3) => h.trans (h3.mono (HLT.out _ h)))
  have HAW := Lib.hid (fun (w1 : World) (h : Below (w.heap.size + 1) W0 w1) => (hAW w1 (HB.out _ h)).mono (fun e w' (q : e = .returned (.bool true) ∧ Below w1.heap.size w1 w') => (show e = .returned (.bool true) ∧ Below (w.heap.size + 1) W0 w' from ⟨q.1, HT0.out _ _ h q.2⟩)))
  have HK1 := Lib.hid (fun (w1 : World) (h : Below (w.heap.size + 1) W0 w1) => (hK1 w1 (HB.out _ h)).mono (fun e w' (q : e = .returned (.int .i64 C) ∧ Below w1.heap.size w1 w') => (show e = .returned (.int .i64 C) ∧ Below (w.heap.size + 1) W0 w' from ⟨q.1, HT0.out _ _ h q.2⟩)))
  have HK2 := Lib.hid (fun (w1 : World) (h : Below (w.heap.size + 1) W0 w1) => (hK2 w1 (HB.out _ h)).mono (fun e w' (q : e = .returned (.int .i64 C) ∧ Below w1.heap.size w1 w') => (show e = .returned (.int .i64 C) ∧ Below (w.heap.size + 1) W0 w' from ⟨q.1, HT0.out _ _ h q.2⟩)))
  have HF1 := Lib.hid (fun (w1 : World) (h : Below (w.heap.size + 1) W0 w1) => (hF1 w1 (HB.out _ h)).mono (fun e w' (q : e = .returned (.int .i64 N) ∧ Below w1.heap.size w1 w') => (show e = .returned (.int .i64 N) ∧ Below (w.heap.size + 1) W0 w' from ⟨q.1, HT0.out _ _ h q.2⟩)))
  have HF2 := Lib.hid (fun (w1 : World) (h : Below (w.heap.size + 1) W0 w1) => (hF2 w1 (HB.out _ h)).mono (fun e w' (q : e = .returned (.int .i64 N) ∧ Below w1.heap.size w1 w') => (show e = .returned (.int .i64 N) ∧ Below (w.heap.size + 1) W0 w' from ⟨q.1, HT0.out _ _ h q.2⟩)))
  have HM1 := Lib.hid (fun (w1 : World) (h : Below (w.heap.size + 1) W0 w1) => (hM1 w1 (HB.out _ h)).mono (fun e w' (q : e = .returned (.bool M) ∧ Below w1.heap.size w1 w') => (show e = .returned (.bool M) ∧ Below (w.heap.size + 1) W0 w' from ⟨q.1, HT0.out _ _ h q.2⟩)))
  have HM2 := Lib.hid (fun (w1 : World) (h : Below (w.heap.size + 1) W0 w1) => (hM2 w1 (HB.out _ h)).mono (fun e w' (q : e = .returned (.bool M) ∧ Below w1.heap.size w1 w') => (show e = .returned (.bool M) ∧ Below (w.heap.size + 1) W0 w' from ⟨q.1, HT0.out _ _ h q.2⟩)))
  have HN1 := Lib.hid hN1; have HN2 := Lib.hid hN2; have HS1 := Lib.hid hS1; have HS2 := Lib.hid hS2
  generalize (fun (e : Ending) w' => e = .returned (.bool true) ∧ Below w.heap.size w w') = Q at *
  clear hW0 hsz hAW hK1 hK2 hF1 hF2 hM1 hM2 hN1 hN2 hS1 hS2 hE hx hfx hd hd' hf hf' y1
  go_enter Tryz.func5, Tryz.ntmps5
  subst hds
  go_wp2_with fail
  rw [HW0.out]
  have hb0d : Below (w.heap.size + 1) W0 W0.drew := hb0.drew
  go_region_held3 (fun w' => Below (w.heap.size + 1) W0 w') (first | assumption | exact hb0d) (first
    | (go_at_call 7; ((with_reducible refine (HAW.out _ ?_).mono ?_); assumption); rintro e w1 ⟨rfl, hb1⟩)
    | (go_at_call 11; ((with_reducible refine (HK1.out _ ?_).mono ?_); assumption); rintro e w1 ⟨rfl, hb1⟩)
    | (go_at_call 13; ((with_reducible refine (HK2.out _ ?_).mono ?_); assumption); rintro e w1 ⟨rfl, hb1⟩)
    | (go_at_call 14; ((with_reducible refine (HF1.out _ ?_).mono ?_); assumption); rintro e w1 ⟨rfl, hb1⟩)
    | (go_at_call 15; ((with_reducible refine (HF2.out _ ?_).mono ?_); assumption); rintro e w1 ⟨rfl, hb1⟩)
    | (go_at_call 16; ((with_reducible refine (HM1.out _ ?_).mono ?_); assumption); rintro e w1 ⟨rfl, hb1⟩)
    | (go_at_call 17; ((with_reducible refine (HM2.out _ ?_).mono ?_); assumption); rintro e w1 ⟨rfl, hb1⟩))
  all_goals
    have HBR : Hid (Below (w.heap.size + 1) W0 _) := Lib.hid (by assumption)
    clear HAW HK1 HK2 HF1 HF2 HM1 HM2
    go_wp2_with fail
    go_loopw [7] (fun i wr => ∃ k : Nat, k ≤ 6 ∧ i = .int .u8 k ∧ Below (w.heap.size + 1) W0 wr) (fun i _ => 6 - (intOf i).toNat)
    case atStart => exact ⟨0, by omega, rfl, by first | assumption | exact HBR.out⟩
    case round =>
      obtain ⟨k, hk, rfl, hb⟩ := hrel
      by_cases hlt : k < 6
      · have hltd : decide ((k : Int) < 6) = true := by simp; omega
        have HC1 := Lib.hid (HN1.out k)
        have HC2 := Lib.hid (HN2.out k)
        generalize cntL (k : Int) xs = CN at *
        have e5 : ((CN : Int) != (CN : Int)) = false := by simp
        go_wp2_with fail
        refine (HC1.out _ (HB.out _ hb)).mono ?_
        rintro e w2 ⟨rfl, hb2⟩
        have hc2 := HT0.out _ _ hb hb2
        clear hb2
        go_wp2_with fail
        refine (HC2.out _ (HB.out _ hc2)).mono ?_
        rintro e w3 ⟨rfl, hb3⟩
        have hc3 := HT0.out _ _ hc2 hb3
        clear hb3
        go_wp2_with fail
        go_roundw
        case rel => exact ⟨k + 1, by omega, by go_num, hc3⟩
        case measure => simp [intOf]; omega
      · have hltd : decide ((k : Int) < 6) = false := by simp; omega
        go_wp2_with fail
        refine (HS1.out _ (HB.out _ hb)).mono ?_
        rintro e w2 ⟨a2, k2, rfl, hy2, hb2⟩
        have hc2 := HT0.out _ _ hb hb2
        have HY2 := Lib.hid hy2
        clear hb2 hy2
        go_wp2_with fail
        refine (HS2.out _ (HB.out _ hc2)).mono ?_
        rintro e w3 ⟨a3, k3, rfl, hy3, hb3⟩
        have hc3 := HT0.out _ _ hc2 hb3
        have HM := Lib.hid (HSM.out a2 a3 k2 k3 w3 (HY2.out.later hb3) hy3)
        clear hb3 hy3
        go_wp2_with fail
        refine HM.out.mono ?_
        rintro e w4 ⟨rfl, hb4⟩
        have hc4 := HT0.out _ _ hc3 hb4
        clear hb4
        go_wp2_with fail
        exact HQ.out _ (HB.out _ hc4)


end Go.Proofs.YtdgakmpopgpijaaGreatDoor

/- AlignChecks: the error of any links, what is found in them, and the links of a new template are the specified ones. Conditions: the arguments hold together at most 1048576 values and letters (the second form); the library's tables are as their text lays them (the card ties them). -/
namespace Go.Proofs.YtdgakmpopgpijaaGreatDoor.alignChecks
open Go.Shelf Go.ChangeShapes Go.WideShapes Go.ChangeAt Go.RowKit Go.Lib
open Go.Proofs.YtdgakmpopgpijaaGreatDoor.alignStays (own laidOut laidWorld laid_met env_of zd zp)

theorem bound {H : Type} {l : List (DataW H)} (hk : Rows.uptoSmall H l = true) : Rows.uptoBulkAll l ≤ 1048576 := of_decide_eq_true hk
theorem slice_cap {P : Program} {W : World} {r : Reach} {base len cap : Nat} {t e : TypeId} {a : Option Addr} (ht : P.underlying t = some (.slice e)) (h : Value.okWide P W r base t (.slice a len cap)) : len ≤ cap := by
  simp only [Value.okWide, ht, Cell.okWide] at h
  cases a with
  | none =>
    by_cases hl : len = 0
    · omega
    · obtain ⟨n, rfl⟩ : ∃ n, len = n + 1 := ⟨len - 1, by omega⟩
      simp only [Cell.ok, ht] at h
  | some a => simp only [Cell.ok, ht] at h; exact h.1

def wargs : Array Value := #[.slice none 0 0, .agg zp, .int .i64 0]

set_option maxRecDepth 100000 in
/-- What the walk gives, for all arguments of small bulk and every world that holds the tables. -/
theorem contract (H : Type) (enc : TypeId × Value → H) (F : Stop.Interp) (W : World) (base : Nat) (args : Array Value) (ds gs : List (DataW H)) (before : List MemPlace)
    (hval : ∀ (j : Nat) t v, Tryz.f5.params[j]? = some t → args[j]? = some v → Value.okWide Tryz.prog W .any base t v)
    (hW : DataW.Whole enc Tryz.prog Tryz.f5.params.toList (Rows.OpenSpec.upto Rows.alignChecksSpec).vars false W args.toList ds gs before) (hk : Rows.uptoSmall H (ds ++ gs) = true) (hE : Env W) :
    Calls Tryz.prog 5 args W fun e W' => ∃ v, e = .returned v ∧ ((Rows.OpenSpec.upto Rows.alignChecksSpec).at F).post enc Tryz.prog Tryz.f5 false true false false W args v W' := by
  have hW' := hW
  obtain ⟨p, q, hA0, hV, rfl, hfz, hnd⟩ := hW
  have hA : DataW.TrodAll enc Tryz.prog W 0 (fun _ => true) true Tryz.f5.params.toList args.toList ds p := hA0
  rw [Tryz.params5] at hA hval
  obtain ⟨v0, vs0, d0, ds0, p0, q0, hargs, rfl, rfl, h0, r0⟩ := trodAll_cons hA
  obtain ⟨v1, vs1, d1, ds1, p1, q1, rfl, rfl, rfl, h1, r1⟩ := trodAll_cons r0
  obtain ⟨v2, vs2, d2, ds2, p2, q2, rfl, rfl, rfl, h2, r2⟩ := trodAll_cons r1
  obtain ⟨rfl, rfl, rfl⟩ := trodAll_nil r2
  obtain rfl : args = #[v0, v1, v2] := by cases args; simp_all
  obtain ⟨rfl, rfl⟩ := trodVars_none hV
  have hbk := bound hk
  simp only [List.append_nil, Rows.uptoBulkAll] at hbk
  have k0 := h0
  have lt0 : ∀ x ∈ p0, x.block < W.heap.size := by obtain ⟨m, hm⟩ := k0; exact DataW.trod_lt m _ _ _ hm
  obtain ⟨f0, t0⟩ := h0
  have k1 := h1
  have lt1 : ∀ x ∈ p1, x.block < W.heap.size := by obtain ⟨m, hm⟩ := k1; exact DataW.trod_lt m _ _ _ hm
  obtain ⟨f1, t1⟩ := h1
  have k2 := h2
  have lt2 : ∀ x ∈ p2, x.block < W.heap.size := by obtain ⟨m, hm⟩ := k2; exact DataW.trod_lt m _ _ _ hm
  obtain ⟨f2, t2⟩ := h2
  obtain ⟨a, len, cap, rfl⟩ := okWide_slice Tryz.underlying22 (hval 0 22 v0 rfl rfl)
  have hcap := slice_cap Tryz.underlying22 (hval 0 22 _ rfl rfl)
  obtain ⟨a', xs, cap', e0, hS, hF, hL, _⟩ := reads_slice Tryz.underlying22 c49 (by decide) (fun _ => rfl) read_lk f0 _ (d0, p0) t0 (by simp only; omega)
  simp [Value.cells] at e0
  obtain ⟨rfl, rfl, rfl⟩ := e0
  obtain ⟨c1, rfl, hc1⟩ := okWide_struct Tryz.underlying30 (hval 1 30 v1 rfl rfl)
  obtain ⟨⟨d, d'⟩, e1, ⟨l1, l1'⟩, ⟨g1, g1'⟩, _⟩ := read_pair f1 _ (d1, p1) t1 (by simp only; omega)
  simp [Value.cells] at e1
  have e1' : c1 = (d.enc ++ d'.enc).toArray := by rw [← show pairEnc (d, d') = d.enc ++ d'.enc from rfl, ← e1]
  subst e1'
  obtain ⟨n2, rfl⟩ := okWide_int Tryz.underlying2 (hval 2 2 v2 rfl rfl)
  clear hA0
  refine (checksLaw_calls a cap xs d d' n2 W hE hS hF (by simp only at hL; omega) hcap l1 l1' g1 g1').mono fun e W' ⟨he, bel⟩ => ?_
  subst he
  exact ⟨_, rfl, _, _, _, [], _, [], hW', trodAll_mk1 (shut_bool Tryz.underlying4 _), (trodAll_cons_mk (Below.trod laidOut (by kernel_rfl) (of_decide_eq_true (by kernel_rfl)) k0 bel lt0) (trodAll_cons_mk (Below.trod laidOut (by kernel_rfl) (of_decide_eq_true (by kernel_rfl)) k1 bel lt1) (trodAll_cons_mk (Below.trod laidOut (by kernel_rfl) (of_decide_eq_true (by kernel_rfl)) k2 bel lt2) trodAll_mk0))), rfl, bel.frame _, fun h => by cases h⟩

/-- What a document of zero values reads as. -/
def zdoc {H : Type} : DataW H := .agg [.lit (.string []), .lit (.string []), .lit (.int .u8 0), .lit (.bool false), .lit (.int .i64 0), .nil, .nil, .nil]
theorem wreads (os : Os) {H : Type} (enc : TypeId × Value → H) : ∃ places, DataW.whole enc Tryz.prog ((laidWorld os).forCall (fun _ _ => 0) ⟨#[], wargs, []⟩).memory Tryz.f5.params.toList (Rows.OpenSpec.upto Rows.alignChecksSpec).vars false wargs.toList 8 = some ([.nil, .agg [zdoc, zdoc], .lit (.int .i64 0)], [], places) := by
  have hw : (DataW.whole enc Tryz.prog ((laidWorld os).forCall (fun _ _ => 0) ⟨#[], wargs, []⟩).memory Tryz.f5.params.toList (Rows.OpenSpec.upto Rows.alignChecksSpec).vars false wargs.toList 8).map (fun x => (x.1, x.2.1)) = some ([.nil, .agg [zdoc, zdoc], .lit (.int .i64 0)], []) := by kernel_rfl
  obtain ⟨⟨x1, x2, x3⟩, hx, hx1⟩ := Option.map_eq_some_iff.1 hw
  simp only [Prod.mk.injEq] at hx1
  obtain ⟨rfl, rfl⟩ := hx1
  exact ⟨x3, hx⟩

set_option maxRecDepth 100000 in
theorem liftedUpto (os : Os) (started : os.Started) (H : Type) (enc : TypeId × Value → H) (F : Stop.Interp) :
    ReturnsInHanded {} Tryz.checked os 5 .any ((Rows.OpenSpec.upto Rows.alignChecksSpec).preRow enc Tryz.prog Tryz.f5 Rows.alignChecksUptoRow.domain false Rows.alignChecksUptoRow.laid) (((Rows.OpenSpec.upto Rows.alignChecksSpec).at F).post enc Tryz.prog Tryz.f5 false true false false) := by
  obtain ⟨places, hx⟩ := wreads os enc
  refine returnsInHanded_of_row (C := Tryz.checked) (s := Rows.OpenSpec.upto Rows.alignChecksSpec) own started (by kernel_rfl) Tryz.func5
    (witness_row_at (enc := enc) (C := Tryz.checked) false (laidWorld os) wargs rfl (by kernel_rfl) (by kernel_rfl) (by kernel_rfl)
      (OpenSpec.preRow_of_cond 8 hx (by kernel_rfl) (fun k hk => by cases hk; kernel_rfl) (by kernel_rfl) (laid_met os _))) ?_
  intro W base args ds gs before hval hW _ hcond _ hL hS _
  exact contract H enc F W base args ds gs before hval hW (hcond _ rfl) (env_of hL hS)

theorem saidUpto : Rows.AlignChecksUptoSaid :=
  OpenClaim.holds_of_cond 5 Tryz.f5 rfl rfl rfl rfl rfl rfl rfl ⟨rfl, rfl, rfl, rfl, rfl⟩ rfl rfl rfl rfl rfl (by kernel_rfl) Tryz.func5 (by kernel_rfl)
    (of_decide_eq_true (by kernel_rfl)) (by unfold Func.isWrapper; first | (rw [if_pos (by decide +kernel)]; kernel_rfl) | (rw [if_neg (by decide +kernel)]; exact ⟨rfl, rfl⟩))
    (fun os started H enc _ F => by rw [OpenClaim.pre_eq_preRow]; exact liftedUpto os started H enc F)

theorem plain (f : FuncId) (fn : Func) (hf : Tryz.pinned.checked.prog.funcNamed "captioner/captionerlaw52.AlignChecks" = some f) (hfn : Tryz.pinned.checked.prog.funcs[f]? = some fn) :
    false = Tryz.pinned.checked.prog.looks [] ∧ ∀ (j : Nat) t, fn.params[j]? = some t → Tryz.pinned.checked.prog.wantsStandIn t = false := by
  obtain rfl : f = 5 := Option.some.inj ((show Tryz.prog.funcNamed "captioner/captionerlaw52.AlignChecks" = some 5 by kernel_rfl).symm.trans hf) |>.symm
  obtain rfl : fn = Tryz.f5 := (Option.some.inj (Tryz.func5.symm.trans hfn)).symm
  refine ⟨by kernel_rfl, fun j t ht => ?_⟩
  rw [Tryz.params5] at ht
  have hm := Array.mem_of_getElem? ht
  simp at hm
  rcases hm with rfl | rfl | rfl
  · exact (show Tryz.prog.wantsStandIn 22 = false by kernel_rfl)
  · exact (show Tryz.prog.wantsStandIn 30 = false by kernel_rfl)
  · exact (show Tryz.prog.wantsStandIn 2 = false by kernel_rfl)

/-- AlignChecks returns true for all arguments of bulk at most 1048576. -/
theorem cardUpto : Rows.AlignChecksUptoCardSaid :=
  Claim7.holds_tied_plain_at .later [] _ _ _ _ saidUpto (fun _ h => by cases h) (by kernel_rfl) (fun _ h => by cases h) alignChecksUpto_row_tie rfl ⟨rfl, rfl⟩ (by kernel_rfl) rfl plain (by kernel_rfl)
#print axioms cardUpto

end Go.Proofs.YtdgakmpopgpijaaGreatDoor.alignChecks
