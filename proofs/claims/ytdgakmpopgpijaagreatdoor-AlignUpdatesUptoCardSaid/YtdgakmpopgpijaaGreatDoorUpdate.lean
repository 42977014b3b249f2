/- The contract of align.Update: the links after the template has changed. -/
import Derived.Test.YtdgakmpopgpijaaGreatDoorSortLk
import Derived.Test.YtdgakmpopgpijaaGreatDoorDocCheck
set_option linter.unusedVariables false
namespace Go.Proofs.YtdgakmpopgpijaaGreatDoor
open Go.RowKit

def updOne (before after : List Ev) (x : Lk) : List Lk := if (updLk x before after).2 = true then [(updLk x before after).1] else []
def newOne (xs : List Lk) (e : Ev) : List Lk := if posOf (hasTpl e.id) xs < 0 then [⟨e.id, 0, 3⟩] else []
/-- The links after the template has changed, in some order. -/
def updAll (xs : List Lk) (before after : List Ev) : List Lk := xs.flatMap (updOne before after) ++ after.flatMap (newOne xs)
/-- The error of a change of the template. -/
def updErr (xs : List Lk) (d d' : Doc) : Int := if formB xs = false then 4 else if (docErr d != 0) = true then docErr d else if (docErr d' != 0) = true then docErr d' else if belongB xs d.evs = false then 1 else 0

def UpdatePost (xs : List Lk) (d d' : Doc) (w : World) (e : Ending) (w' : World) : Prop :=
  (∃ v, e = .returned (.tuple #[v, .int .i64 (updErr xs d d')]) ∧ (¬ updErr xs d d' = 0 → v = .slice none 0 0) ∧ (updErr xs d d' = 0 → ∃ ys a cap, v = .slice a ys.length cap ∧ LksAt w' a ys ∧ ys.Perm (updAll xs d.evs d'.evs) ∧ ys.Pairwise (fun x y => x.tpl ≤ y.tpl))) ∧ Below w.heap.size w w'

theorem UpdatePost.bad {xs : List Lk} {d d' : Doc} {w w' : World} {E : Int} (h : updErr xs d d' = E) (h0 : ¬ E = 0) (hb : Below w.heap.size w w') : UpdatePost xs d d' w (.returned (.tuple #[.slice none 0 0, .int .i64 E])) w' :=
  ⟨⟨_, by rw [h], fun _ => rfl, fun h' => absurd (h.symm.trans h') h0⟩, hb⟩

set_option maxRecDepth 100000 in
set_option maxHeartbeats 3200000 in
theorem update_form (a : Option Addr) (cap : Nat) (xs : List Lk) (d d' : Doc) (w : World) (hE : Env w) (hx : LksAt w a xs) (hfx : ∀ x ∈ xs, x.fits) (hlx : xs.length ≤ 4000000) (hd : d.lies w) (hd' : d'.lies w) (hf : d.fits) (hf' : d'.fits) (h1 : formB xs = false) :
    Calls Tryz.prog 8 #[.slice a xs.length cap, .agg d.enc.toArray, .agg d'.enc.toArray] w (UpdatePost xs d d' w) := by
  have hIF := fun (w1 : World) (h : Below w.heap.size w w1) => inForm_calls a cap xs w1 (hx.later h) hfx hlx
  have hD1 := fun (w1 : World) (h : Below w.heap.size w w1) => docCheck_calls d w1 (hE.below h (Nat.le_refl _)) (Doc.later hd h) hf
  have hD2 := fun (w1 : World) (h : Below w.heap.size w w1) => docCheck_calls d' w1 (hE.below h (Nat.le_refl _)) (Doc.later hd' h) hf'
  have hBE := fun (w1 : World) (h : Below w.heap.size w w1) => belong_calls a cap xs d w1 (hx.later h) hlx (hd.2.1.later h) hf.2.2.2.2.2.2.2.2.1
  have hUP := fun (x : Lk) (w1 : World) (h : Below w.heap.size w w1) => (updated_calls x d d' w1 (hd.2.1.later h) (hd'.2.1.later h) hf.2.2.2.2.2.2.2.2.1 hf'.2.2.2.2.2.2.2.2.1 hf.2.2.2.2.2.2.2.1 hf'.2.2.2.2.2.2.2.1).mono fun e w' h => (h : e = .returned (.tuple #[.agg (updLk x d.evs d'.evs).1.enc.toArray, .bool (updLk x d.evs d'.evs).2]) ∧ Below w1.heap.size w1 w')
  have hFI := fun (id : Int) (w1 : World) (h : Below w.heap.size w w1) => linkFind_calls a cap xs id w1 (hx.later h) hlx
  have HX := Lib.hid hx
  have HEV := Lib.hid hd'.2.1
  have hle' := hf'.2.2.2.2.2.2.2.2.1
  rw [h1] at hIF
  have HQ := Lib.hid (fun w' hb => UpdatePost.bad (w := w) (w' := w') (xs := xs) (d := d) (d' := d') (E := 4) (by unfold updErr; rw [if_pos h1]) (by decide) hb)
  have HIF := Lib.hid hIF; have HD1 := Lib.hid hD1; have HD2 := Lib.hid hD2; have HBE := Lib.hid hBE; have HUP := Lib.hid hUP; have HFI := Lib.hid hFI
  clear hIF hD1 hD2 hBE hUP hFI hd hd' hf hf' hfx hE hx
  generalize UpdatePost xs d d' w = Q at *
  obtain ⟨title, lang, rate, drop, last, ra, rc, regs, ea, ec, evs, ca, cc, cms⟩ := d
  obtain ⟨title', lang', rate', drop', last', ra', rc', regs', ea', ec', evs', ca', cc', cms'⟩ := d'
  simp only at HEV hle' HUP
  simp only [Doc.enc] at HD1 HD2 HBE HUP ⊢
  generalize hds : #[Value.string title, .string lang, .int .u8 rate, .bool drop, .int .i64 last, .slice ra regs.length rc, .slice ea evs.length ec, .slice ca cms.length cc] = ds at *
  generalize hes : #[Value.string title', .string lang', .int .u8 rate', .bool drop', .int .i64 last', .slice ra' regs'.length rc', .slice ea' evs'.length ec', .slice ca' cms'.length cc'] = es at *
  have f0 := box2_fst w ds es 28 28 0 (.string title) (by rw [← hds]; rfl)
  have f1 := box2_fst w ds es 28 28 1 (.string lang) (by rw [← hds]; rfl)
  have f2 := box2_fst w ds es 28 28 2 (.int .u8 rate) (by rw [← hds]; rfl)
  have f3 := box2_fst w ds es 28 28 3 (.bool drop) (by rw [← hds]; rfl)
  have f4 := box2_fst w ds es 28 28 4 (.int .i64 last) (by rw [← hds]; rfl)
  have f5 := box2_fst w ds es 28 28 5 (.slice ra regs.length rc) (by rw [← hds]; rfl)
  have f6 := box2_fst w ds es 28 28 6 (.slice ea evs.length ec) (by rw [← hds]; rfl)
  have f7 := box2_fst w ds es 28 28 7 (.slice ca cms.length cc) (by rw [← hds]; rfl)
  have g0 := box2_snd w ds es 28 28 0 (.string title') (by rw [← hes]; rfl)
  have g1 := box2_snd w ds es 28 28 1 (.string lang') (by rw [← hes]; rfl)
  have g2 := box2_snd w ds es 28 28 2 (.int .u8 rate') (by rw [← hes]; rfl)
  have g3 := box2_snd w ds es 28 28 3 (.bool drop') (by rw [← hes]; rfl)
  have g4 := box2_snd w ds es 28 28 4 (.int .i64 last') (by rw [← hes]; rfl)
  have g5 := box2_snd w ds es 28 28 5 (.slice ra' regs'.length rc') (by rw [← hes]; rfl)
  have g6 := box2_snd w ds es 28 28 6 (.slice ea' evs'.length ec') (by rw [← hes]; rfl)
  have g7 := box2_snd w ds es 28 28 7 (.slice ca' cms'.length cc') (by rw [← hes]; rfl)
  have HB := Lib.hid (fun (w1 : World) (h : Below (w.heap.size + 2) ((w.alloc (.cells ds 28)).alloc (.cells es 28)) w1) => box2_below h)
  have hb0 : Below (w.heap.size + 2) ((w.alloc (.cells ds 28)).alloc (.cells es 28)) ((w.alloc (.cells ds 28)).alloc (.cells es 28)) := Below.refl _ _
  have hsz : ((w.alloc (.cells ds 28)).alloc (.cells es 28)).heap.size = w.heap.size + 2 := by simp
  generalize hW0 : (w.alloc (.cells ds 28)).alloc (.cells es 28) = W0 at *
  have HW0 := Lib.hid hW0
  have HLT := Lib.hid (fun (w1 : World) (h : Below (w.heap.size + 2) W0 w1) => (show w.heap.size + 2 ≤ w1.heap.size by have := h.size; rw [hsz] at this; exact this))
  have HT0 := Lib.hid (fun (w2 w3 : World) (h : Below (w.heap.size + 2) W0 w2) (h3 : Below w2.heap.size w2 w3) => h.trans (h3.mono (HLT.out _ h)))
  clear hW0 hsz
  go_enter Tryz.func8, Tryz.ntmps8
  subst hds
  subst hes
  go_wp2_with fail
  rw [HW0.out]
  refine (HIF.out _ (HB.out _ hb0)).mono ?_
  rintro e w1 ⟨rfl, hb1⟩
  have hc1 := HT0.out _ _ hb0 hb1
  clear hb1 HIF
  go_wp2_with fail
  exact HQ.out _ (HB.out _ hc1)

set_option maxRecDepth 100000 in
set_option maxHeartbeats 3200000 in
theorem update_before (a : Option Addr) (cap : Nat) (xs : List Lk) (d d' : Doc) (w : World) (hE : Env w) (hx : LksAt w a xs) (hfx : ∀ x ∈ xs, x.fits) (hlx : xs.length ≤ 4000000) (hd : d.lies w) (hd' : d'.lies w) (hf : d.fits) (hf' : d'.fits) (h1 : formB xs = true) (h2 : (docErr d != 0) = true) :
    Calls Tryz.prog 8 #[.slice a xs.length cap, .agg d.enc.toArray, .agg d'.enc.toArray] w (UpdatePost xs d d' w) := by
  have hIF := fun (w1 : World) (h : Below w.heap.size w w1) => inForm_calls a cap xs w1 (hx.later h) hfx hlx
  have hD1 := fun (w1 : World) (h : Below w.heap.size w w1) => docCheck_calls d w1 (hE.below h (Nat.le_refl _)) (Doc.later hd h) hf
  have hD2 := fun (w1 : World) (h : Below w.heap.size w w1) => docCheck_calls d' w1 (hE.below h (Nat.le_refl _)) (Doc.later hd' h) hf'
  have hBE := fun (w1 : World) (h : Below w.heap.size w w1) => belong_calls a cap xs d w1 (hx.later h) hlx (hd.2.1.later h) hf.2.2.2.2.2.2.2.2.1
  have hUP := fun (x : Lk) (w1 : World) (h : Below w.heap.size w w1) => (updated_calls x d d' w1 (hd.2.1.later h) (hd'.2.1.later h) hf.2.2.2.2.2.2.2.2.1 hf'.2.2.2.2.2.2.2.2.1 hf.2.2.2.2.2.2.2.1 hf'.2.2.2.2.2.2.2.1).mono fun e w' h => (h : e = .returned (.tuple #[.agg (updLk x d.evs d'.evs).1.enc.toArray, .bool (updLk x d.evs d'.evs).2]) ∧ Below w1.heap.size w1 w')
  have hFI := fun (id : Int) (w1 : World) (h : Below w.heap.size w w1) => linkFind_calls a cap xs id w1 (hx.later h) hlx
  have HX := Lib.hid hx
  have HEV := Lib.hid hd'.2.1
  have hle' := hf'.2.2.2.2.2.2.2.2.1
  rw [h1] at hIF
  have HQ := Lib.hid (fun w' hb => UpdatePost.bad (w := w) (w' := w') (xs := xs) (d := d) (d' := d') (E := docErr d) (by unfold updErr; rw [if_neg (by rw [h1]; decide), if_pos h2]) (by simpa using h2) hb)
  generalize docErr d = D1 at *
  have HIF := Lib.hid hIF; have HD1 := Lib.hid hD1; have HD2 := Lib.hid hD2; have HBE := Lib.hid hBE; have HUP := Lib.hid hUP; have HFI := Lib.hid hFI
  clear hIF hD1 hD2 hBE hUP hFI hd hd' hf hf' hfx hE hx
  generalize UpdatePost xs d d' w = Q at *
  obtain ⟨title, lang, rate, drop, last, ra, rc, regs, ea, ec, evs, ca, cc, cms⟩ := d
  obtain ⟨title', lang', rate', drop', last', ra', rc', regs', ea', ec', evs', ca', cc', cms'⟩ := d'
  simp only at HEV hle' HUP
  simp only [Doc.enc] at HD1 HD2 HBE HUP ⊢
  generalize hds : #[Value.string title, .string lang, .int .u8 rate, .bool drop, .int .i64 last, .slice ra regs.length rc, .slice ea evs.length ec, .slice ca cms.length cc] = ds at *
  generalize hes : #[Value.string title', .string lang', .int .u8 rate', .bool drop', .int .i64 last', .slice ra' regs'.length rc', .slice ea' evs'.length ec', .slice ca' cms'.length cc'] = es at *
  have f0 := box2_fst w ds es 28 28 0 (.string title) (by rw [← hds]; rfl)
  have f1 := box2_fst w ds es 28 28 1 (.string lang) (by rw [← hds]; rfl)
  have f2 := box2_fst w ds es 28 28 2 (.int .u8 rate) (by rw [← hds]; rfl)
  have f3 := box2_fst w ds es 28 28 3 (.bool drop) (by rw [← hds]; rfl)
  have f4 := box2_fst w ds es 28 28 4 (.int .i64 last) (by rw [← hds]; rfl)
  have f5 := box2_fst w ds es 28 28 5 (.slice ra regs.length rc) (by rw [← hds]; rfl)
  have f6 := box2_fst w ds es 28 28 6 (.slice ea evs.length ec) (by rw [← hds]; rfl)
  have f7 := box2_fst w ds es 28 28 7 (.slice ca cms.length cc) (by rw [← hds]; rfl)
  have g0 := box2_snd w ds es 28 28 0 (.string title') (by rw [← hes]; rfl)
  have g1 := box2_snd w ds es 28 28 1 (.string lang') (by rw [← hes]; rfl)
  have g2 := box2_snd w ds es 28 28 2 (.int .u8 rate') (by rw [← hes]; rfl)
  have g3 := box2_snd w ds es 28 28 3 (.bool drop') (by rw [← hes]; rfl)
  have g4 := box2_snd w ds es 28 28 4 (.int .i64 last') (by rw [← hes]; rfl)
  have g5 := box2_snd w ds es 28 28 5 (.slice ra' regs'.length rc') (by rw [← hes]; rfl)
  have g6 := box2_snd w ds es 28 28 6 (.slice ea' evs'.length ec') (by rw [← hes]; rfl)
  have g7 := box2_snd w ds es 28 28 7 (.slice ca' cms'.length cc') (by rw [← hes]; rfl)
  have HB := Lib.hid (fun (w1 : World) (h : Below (w.heap.size + 2) ((w.alloc (.cells ds 28)).alloc (.cells es 28)) w1) => box2_below h)
  have hb0 : Below (w.heap.size + 2) ((w.alloc (.cells ds 28)).alloc (.cells es 28)) ((w.alloc (.cells ds 28)).alloc (.cells es 28)) := Below.refl _ _
  have hsz : ((w.alloc (.cells ds 28)).alloc (.cells es 28)).heap.size = w.heap.size + 2 := by simp
  generalize hW0 : (w.alloc (.cells ds 28)).alloc (.cells es 28) = W0 at *
  have HW0 := Lib.hid hW0
  have HLT := Lib.hid (fun (w1 : World) (h : Below (w.heap.size + 2) W0 w1) => (show w.heap.size + 2 ≤ w1.heap.size by have := h.size; rw [hsz] at this; exact this))
  have HT0 := Lib.hid (fun (w2 w3 : World) (h : Below (w.heap.size + 2) W0 w2) (h3 : Below w2.heap.size w2 w3) => h.trans (h3.mono (HLT.out _ h)))
  clear hW0 hsz
  go_enter Tryz.func8, Tryz.ntmps8
  subst hds
  subst hes
  go_wp2_with fail
  rw [HW0.out]
  refine (HIF.out _ (HB.out _ hb0)).mono ?_
  rintro e w1 ⟨rfl, hb1⟩
  have hc1 := HT0.out _ _ hb0 hb1
  clear hb1 HIF
  go_wp2_with fail
  have HL2 := Lib.hid (fun o o' => ((hc1.alloc (HLT.out _ hc1) o).alloc (by have := HLT.out _ hc1; simp; omega) o' : Below (w.heap.size + 2) W0 ((w1.alloc o).alloc o')))
  refine wp_loop_rounds 3 ?_
  rw [rounds_succ]
  go_wp2_with fail
  refine (HD1.out _ (HB.out _ (HL2.out _ _))).mono ?_
  rintro e w2 ⟨rfl, hb2⟩
  have hc2 := HT0.out _ _ (HL2.out _ _) hb2
  have k0 := blk_cell (alloc_blk (heap_alloc_last w1 (.cells #[Value.string title, .string lang, .int .u8 rate, .bool drop, .int .i64 last, .slice ra regs.length rc, .slice ea evs.length ec, .slice ca cms.length cc, Value.string title', .string lang', .int .u8 rate', .bool drop', .int .i64 last', .slice ra' regs'.length rc', .slice ea' evs'.length ec', .slice ca' cms'.length cc'] 28)) _) (by rw [World.size_alloc, World.size_alloc]; omega) 8 (.string title') rfl w2 hb2
  have k1 := blk_cell (alloc_blk (heap_alloc_last w1 (.cells #[Value.string title, .string lang, .int .u8 rate, .bool drop, .int .i64 last, .slice ra regs.length rc, .slice ea evs.length ec, .slice ca cms.length cc, Value.string title', .string lang', .int .u8 rate', .bool drop', .int .i64 last', .slice ra' regs'.length rc', .slice ea' evs'.length ec', .slice ca' cms'.length cc'] 28)) _) (by rw [World.size_alloc, World.size_alloc]; omega) 9 (.string lang') rfl w2 hb2
  have k2 := blk_cell (alloc_blk (heap_alloc_last w1 (.cells #[Value.string title, .string lang, .int .u8 rate, .bool drop, .int .i64 last, .slice ra regs.length rc, .slice ea evs.length ec, .slice ca cms.length cc, Value.string title', .string lang', .int .u8 rate', .bool drop', .int .i64 last', .slice ra' regs'.length rc', .slice ea' evs'.length ec', .slice ca' cms'.length cc'] 28)) _) (by rw [World.size_alloc, World.size_alloc]; omega) 10 (.int .u8 rate') rfl w2 hb2
  have k3 := blk_cell (alloc_blk (heap_alloc_last w1 (.cells #[Value.string title, .string lang, .int .u8 rate, .bool drop, .int .i64 last, .slice ra regs.length rc, .slice ea evs.length ec, .slice ca cms.length cc, Value.string title', .string lang', .int .u8 rate', .bool drop', .int .i64 last', .slice ra' regs'.length rc', .slice ea' evs'.length ec', .slice ca' cms'.length cc'] 28)) _) (by rw [World.size_alloc, World.size_alloc]; omega) 11 (.bool drop') rfl w2 hb2
  have k4 := blk_cell (alloc_blk (heap_alloc_last w1 (.cells #[Value.string title, .string lang, .int .u8 rate, .bool drop, .int .i64 last, .slice ra regs.length rc, .slice ea evs.length ec, .slice ca cms.length cc, Value.string title', .string lang', .int .u8 rate', .bool drop', .int .i64 last', .slice ra' regs'.length rc', .slice ea' evs'.length ec', .slice ca' cms'.length cc'] 28)) _) (by rw [World.size_alloc, World.size_alloc]; omega) 12 (.int .i64 last') rfl w2 hb2
  have k5 := blk_cell (alloc_blk (heap_alloc_last w1 (.cells #[Value.string title, .string lang, .int .u8 rate, .bool drop, .int .i64 last, .slice ra regs.length rc, .slice ea evs.length ec, .slice ca cms.length cc, Value.string title', .string lang', .int .u8 rate', .bool drop', .int .i64 last', .slice ra' regs'.length rc', .slice ea' evs'.length ec', .slice ca' cms'.length cc'] 28)) _) (by rw [World.size_alloc, World.size_alloc]; omega) 13 (.slice ra' regs'.length rc') rfl w2 hb2
  have k6 := blk_cell (alloc_blk (heap_alloc_last w1 (.cells #[Value.string title, .string lang, .int .u8 rate, .bool drop, .int .i64 last, .slice ra regs.length rc, .slice ea evs.length ec, .slice ca cms.length cc, Value.string title', .string lang', .int .u8 rate', .bool drop', .int .i64 last', .slice ra' regs'.length rc', .slice ea' evs'.length ec', .slice ca' cms'.length cc'] 28)) _) (by rw [World.size_alloc, World.size_alloc]; omega) 14 (.slice ea' evs'.length ec') rfl w2 hb2
  have k7 := blk_cell (alloc_blk (heap_alloc_last w1 (.cells #[Value.string title, .string lang, .int .u8 rate, .bool drop, .int .i64 last, .slice ra regs.length rc, .slice ea evs.length ec, .slice ca cms.length cc, Value.string title', .string lang', .int .u8 rate', .bool drop', .int .i64 last', .slice ra' regs'.length rc', .slice ea' evs'.length ec', .slice ca' cms'.length cc'] 28)) _) (by rw [World.size_alloc, World.size_alloc]; omega) 15 (.slice ca' cms'.length cc') rfl w2 hb2
  clear hb2 HD1
  go_wp2_with fail
  exact HQ.out _ (HB.out _ hc2)

set_option maxRecDepth 100000 in
set_option maxHeartbeats 3200000 in
theorem update_after (a : Option Addr) (cap : Nat) (xs : List Lk) (d d' : Doc) (w : World) (hE : Env w) (hx : LksAt w a xs) (hfx : ∀ x ∈ xs, x.fits) (hlx : xs.length ≤ 4000000) (hd : d.lies w) (hd' : d'.lies w) (hf : d.fits) (hf' : d'.fits) (h1 : formB xs = true) (h2 : docErr d = 0) (h3 : (docErr d' != 0) = true) :
    Calls Tryz.prog 8 #[.slice a xs.length cap, .agg d.enc.toArray, .agg d'.enc.toArray] w (UpdatePost xs d d' w) := by
  have hIF := fun (w1 : World) (h : Below w.heap.size w w1) => inForm_calls a cap xs w1 (hx.later h) hfx hlx
  have hD1 := fun (w1 : World) (h : Below w.heap.size w w1) => docCheck_calls d w1 (hE.below h (Nat.le_refl _)) (Doc.later hd h) hf
  have hD2 := fun (w1 : World) (h : Below w.heap.size w w1) => docCheck_calls d' w1 (hE.below h (Nat.le_refl _)) (Doc.later hd' h) hf'
  have hBE := fun (w1 : World) (h : Below w.heap.size w w1) => belong_calls a cap xs d w1 (hx.later h) hlx (hd.2.1.later h) hf.2.2.2.2.2.2.2.2.1
  have hUP := fun (x : Lk) (w1 : World) (h : Below w.heap.size w w1) => (updated_calls x d d' w1 (hd.2.1.later h) (hd'.2.1.later h) hf.2.2.2.2.2.2.2.2.1 hf'.2.2.2.2.2.2.2.2.1 hf.2.2.2.2.2.2.2.1 hf'.2.2.2.2.2.2.2.1).mono fun e w' h => (h : e = .returned (.tuple #[.agg (updLk x d.evs d'.evs).1.enc.toArray, .bool (updLk x d.evs d'.evs).2]) ∧ Below w1.heap.size w1 w')
  have hFI := fun (id : Int) (w1 : World) (h : Below w.heap.size w w1) => linkFind_calls a cap xs id w1 (hx.later h) hlx
  have HX := Lib.hid hx
  have HEV := Lib.hid hd'.2.1
  have hle' := hf'.2.2.2.2.2.2.2.2.1
  rw [h1] at hIF
  rw [h2] at hD1
  have HQ := Lib.hid (fun w' hb => UpdatePost.bad (w := w) (w' := w') (xs := xs) (d := d) (d' := d') (E := docErr d') (by unfold updErr; rw [if_neg (by rw [h1]; decide), if_neg (by rw [h2]; decide), if_pos h3]) (by simpa using h3) hb)
  clear h2
  generalize docErr d' = D2 at *
  have HIF := Lib.hid hIF; have HD1 := Lib.hid hD1; have HD2 := Lib.hid hD2; have HBE := Lib.hid hBE; have HUP := Lib.hid hUP; have HFI := Lib.hid hFI
  clear hIF hD1 hD2 hBE hUP hFI hd hd' hf hf' hfx hE hx
  generalize UpdatePost xs d d' w = Q at *
  obtain ⟨title, lang, rate, drop, last, ra, rc, regs, ea, ec, evs, ca, cc, cms⟩ := d
  obtain ⟨title', lang', rate', drop', last', ra', rc', regs', ea', ec', evs', ca', cc', cms'⟩ := d'
  simp only at HEV hle' HUP
  simp only [Doc.enc] at HD1 HD2 HBE HUP ⊢
  generalize hds : #[Value.string title, .string lang, .int .u8 rate, .bool drop, .int .i64 last, .slice ra regs.length rc, .slice ea evs.length ec, .slice ca cms.length cc] = ds at *
  generalize hes : #[Value.string title', .string lang', .int .u8 rate', .bool drop', .int .i64 last', .slice ra' regs'.length rc', .slice ea' evs'.length ec', .slice ca' cms'.length cc'] = es at *
  have f0 := box2_fst w ds es 28 28 0 (.string title) (by rw [← hds]; rfl)
  have f1 := box2_fst w ds es 28 28 1 (.string lang) (by rw [← hds]; rfl)
  have f2 := box2_fst w ds es 28 28 2 (.int .u8 rate) (by rw [← hds]; rfl)
  have f3 := box2_fst w ds es 28 28 3 (.bool drop) (by rw [← hds]; rfl)
  have f4 := box2_fst w ds es 28 28 4 (.int .i64 last) (by rw [← hds]; rfl)
  have f5 := box2_fst w ds es 28 28 5 (.slice ra regs.length rc) (by rw [← hds]; rfl)
  have f6 := box2_fst w ds es 28 28 6 (.slice ea evs.length ec) (by rw [← hds]; rfl)
  have f7 := box2_fst w ds es 28 28 7 (.slice ca cms.length cc) (by rw [← hds]; rfl)
  have g0 := box2_snd w ds es 28 28 0 (.string title') (by rw [← hes]; rfl)
  have g1 := box2_snd w ds es 28 28 1 (.string lang') (by rw [← hes]; rfl)
  have g2 := box2_snd w ds es 28 28 2 (.int .u8 rate') (by rw [← hes]; rfl)
  have g3 := box2_snd w ds es 28 28 3 (.bool drop') (by rw [← hes]; rfl)
  have g4 := box2_snd w ds es 28 28 4 (.int .i64 last') (by rw [← hes]; rfl)
  have g5 := box2_snd w ds es 28 28 5 (.slice ra' regs'.length rc') (by rw [← hes]; rfl)
  have g6 := box2_snd w ds es 28 28 6 (.slice ea' evs'.length ec') (by rw [← hes]; rfl)
  have g7 := box2_snd w ds es 28 28 7 (.slice ca' cms'.length cc') (by rw [← hes]; rfl)
  have HB := Lib.hid (fun (w1 : World) (h : Below (w.heap.size + 2) ((w.alloc (.cells ds 28)).alloc (.cells es 28)) w1) => box2_below h)
  have hb0 : Below (w.heap.size + 2) ((w.alloc (.cells ds 28)).alloc (.cells es 28)) ((w.alloc (.cells ds 28)).alloc (.cells es 28)) := Below.refl _ _
  have hsz : ((w.alloc (.cells ds 28)).alloc (.cells es 28)).heap.size = w.heap.size + 2 := by simp
  generalize hW0 : (w.alloc (.cells ds 28)).alloc (.cells es 28) = W0 at *
  have HW0 := Lib.hid hW0
  have HLT := Lib.hid (fun (w1 : World) (h : Below (w.heap.size + 2) W0 w1) => (show w.heap.size + 2 ≤ w1.heap.size by have := h.size; rw [hsz] at this; exact this))
  have HT0 := Lib.hid (fun (w2 w3 : World) (h : Below (w.heap.size + 2) W0 w2) (h3 : Below w2.heap.size w2 w3) => h.trans (h3.mono (HLT.out _ h)))
  clear hW0 hsz
  go_enter Tryz.func8, Tryz.ntmps8
  subst hds
  subst hes
  go_wp2_with fail
  rw [HW0.out]
  refine (HIF.out _ (HB.out _ hb0)).mono ?_
  rintro e w1 ⟨rfl, hb1⟩
  have hc1 := HT0.out _ _ hb0 hb1
  clear hb1 HIF
  go_wp2_with fail
  have HL2 := Lib.hid (fun o o' => ((hc1.alloc (HLT.out _ hc1) o).alloc (by have := HLT.out _ hc1; simp; omega) o' : Below (w.heap.size + 2) W0 ((w1.alloc o).alloc o')))
  refine wp_loop_rounds 3 ?_
  rw [rounds_succ]
  go_wp2_with fail
  refine (HD1.out _ (HB.out _ (HL2.out _ _))).mono ?_
  rintro e w2 ⟨rfl, hb2⟩
  have hc2 := HT0.out _ _ (HL2.out _ _) hb2
  have k0 := blk_cell (alloc_blk (heap_alloc_last w1 (.cells #[Value.string title, .string lang, .int .u8 rate, .bool drop, .int .i64 last, .slice ra regs.length rc, .slice ea evs.length ec, .slice ca cms.length cc, Value.string title', .string lang', .int .u8 rate', .bool drop', .int .i64 last', .slice ra' regs'.length rc', .slice ea' evs'.length ec', .slice ca' cms'.length cc'] 28)) _) (by rw [World.size_alloc, World.size_alloc]; omega) 8 (.string title') rfl w2 hb2
  have k1 := blk_cell (alloc_blk (heap_alloc_last w1 (.cells #[Value.string title, .string lang, .int .u8 rate, .bool drop, .int .i64 last, .slice ra regs.length rc, .slice ea evs.length ec, .slice ca cms.length cc, Value.string title', .string lang', .int .u8 rate', .bool drop', .int .i64 last', .slice ra' regs'.length rc', .slice ea' evs'.length ec', .slice ca' cms'.length cc'] 28)) _) (by rw [World.size_alloc, World.size_alloc]; omega) 9 (.string lang') rfl w2 hb2
  have k2 := blk_cell (alloc_blk (heap_alloc_last w1 (.cells #[Value.string title, .string lang, .int .u8 rate, .bool drop, .int .i64 last, .slice ra regs.length rc, .slice ea evs.length ec, .slice ca cms.length cc, Value.string title', .string lang', .int .u8 rate', .bool drop', .int .i64 last', .slice ra' regs'.length rc', .slice ea' evs'.length ec', .slice ca' cms'.length cc'] 28)) _) (by rw [World.size_alloc, World.size_alloc]; omega) 10 (.int .u8 rate') rfl w2 hb2
  have k3 := blk_cell (alloc_blk (heap_alloc_last w1 (.cells #[Value.string title, .string lang, .int .u8 rate, .bool drop, .int .i64 last, .slice ra regs.length rc, .slice ea evs.length ec, .slice ca cms.length cc, Value.string title', .string lang', .int .u8 rate', .bool drop', .int .i64 last', .slice ra' regs'.length rc', .slice ea' evs'.length ec', .slice ca' cms'.length cc'] 28)) _) (by rw [World.size_alloc, World.size_alloc]; omega) 11 (.bool drop') rfl w2 hb2
  have k4 := blk_cell (alloc_blk (heap_alloc_last w1 (.cells #[Value.string title, .string lang, .int .u8 rate, .bool drop, .int .i64 last, .slice ra regs.length rc, .slice ea evs.length ec, .slice ca cms.length cc, Value.string title', .string lang', .int .u8 rate', .bool drop', .int .i64 last', .slice ra' regs'.length rc', .slice ea' evs'.length ec', .slice ca' cms'.length cc'] 28)) _) (by rw [World.size_alloc, World.size_alloc]; omega) 12 (.int .i64 last') rfl w2 hb2
  have k5 := blk_cell (alloc_blk (heap_alloc_last w1 (.cells #[Value.string title, .string lang, .int .u8 rate, .bool drop, .int .i64 last, .slice ra regs.length rc, .slice ea evs.length ec, .slice ca cms.length cc, Value.string title', .string lang', .int .u8 rate', .bool drop', .int .i64 last', .slice ra' regs'.length rc', .slice ea' evs'.length ec', .slice ca' cms'.length cc'] 28)) _) (by rw [World.size_alloc, World.size_alloc]; omega) 13 (.slice ra' regs'.length rc') rfl w2 hb2
  have k6 := blk_cell (alloc_blk (heap_alloc_last w1 (.cells #[Value.string title, .string lang, .int .u8 rate, .bool drop, .int .i64 last, .slice ra regs.length rc, .slice ea evs.length ec, .slice ca cms.length cc, Value.string title', .string lang', .int .u8 rate', .bool drop', .int .i64 last', .slice ra' regs'.length rc', .slice ea' evs'.length ec', .slice ca' cms'.length cc'] 28)) _) (by rw [World.size_alloc, World.size_alloc]; omega) 14 (.slice ea' evs'.length ec') rfl w2 hb2
  have k7 := blk_cell (alloc_blk (heap_alloc_last w1 (.cells #[Value.string title, .string lang, .int .u8 rate, .bool drop, .int .i64 last, .slice ra regs.length rc, .slice ea evs.length ec, .slice ca cms.length cc, Value.string title', .string lang', .int .u8 rate', .bool drop', .int .i64 last', .slice ra' regs'.length rc', .slice ea' evs'.length ec', .slice ca' cms'.length cc'] 28)) _) (by rw [World.size_alloc, World.size_alloc]; omega) 15 (.slice ca' cms'.length cc') rfl w2 hb2
  clear hb2 HD1
  go_wp2_with fail
  have HL1 := Lib.hid (fun o => (hc2.alloc (HLT.out _ hc2) o : Below (w.heap.size + 2) W0 (w2.alloc o)))
  rw [rounds_succ]
  go_wp2_with fail
  refine (HD2.out _ (HB.out _ (HL1.out _))).mono ?_
  rintro e w3 ⟨rfl, hb3⟩
  have hc3 := HT0.out _ _ (HL1.out _) hb3
  clear hb3 HD2 k0 k1 k2 k3 k4 k5 k6 k7
  go_wp2_with fail
  exact HQ.out _ (HB.out _ hc3)

set_option maxRecDepth 100000 in
set_option maxHeartbeats 3200000 in
theorem update_belong (a : Option Addr) (cap : Nat) (xs : List Lk) (d d' : Doc) (w : World) (hE : Env w) (hx : LksAt w a xs) (hfx : ∀ x ∈ xs, x.fits) (hlx : xs.length ≤ 4000000) (hd : d.lies w) (hd' : d'.lies w) (hf : d.fits) (hf' : d'.fits) (h1 : formB xs = true) (h2 : docErr d = 0) (h3 : docErr d' = 0) (h4 : belongB xs d.evs = false) :
    Calls Tryz.prog 8 #[.slice a xs.length cap, .agg d.enc.toArray, .agg d'.enc.toArray] w (UpdatePost xs d d' w) := by
  have hIF := fun (w1 : World) (h : Below w.heap.size w w1) => inForm_calls a cap xs w1 (hx.later h) hfx hlx
  have hD1 := fun (w1 : World) (h : Below w.heap.size w w1) => docCheck_calls d w1 (hE.below h (Nat.le_refl _)) (Doc.later hd h) hf
  have hD2 := fun (w1 : World) (h : Below w.heap.size w w1) => docCheck_calls d' w1 (hE.below h (Nat.le_refl _)) (Doc.later hd' h) hf'
  have hBE := fun (w1 : World) (h : Below w.heap.size w w1) => belong_calls a cap xs d w1 (hx.later h) hlx (hd.2.1.later h) hf.2.2.2.2.2.2.2.2.1
  have hUP := fun (x : Lk) (w1 : World) (h : Below w.heap.size w w1) => (updated_calls x d d' w1 (hd.2.1.later h) (hd'.2.1.later h) hf.2.2.2.2.2.2.2.2.1 hf'.2.2.2.2.2.2.2.2.1 hf.2.2.2.2.2.2.2.1 hf'.2.2.2.2.2.2.2.1).mono fun e w' h => (h : e = .returned (.tuple #[.agg (updLk x d.evs d'.evs).1.enc.toArray, .bool (updLk x d.evs d'.evs).2]) ∧ Below w1.heap.size w1 w')
  have hFI := fun (id : Int) (w1 : World) (h : Below w.heap.size w w1) => linkFind_calls a cap xs id w1 (hx.later h) hlx
  have HX := Lib.hid hx
  have HEV := Lib.hid hd'.2.1
  have hle' := hf'.2.2.2.2.2.2.2.2.1
  rw [h1] at hIF
  rw [h2] at hD1
  rw [h3] at hD2
  rw [h4] at hBE
  have HQ := Lib.hid (fun w' hb => UpdatePost.bad (w := w) (w' := w') (xs := xs) (d := d) (d' := d') (E := 1) (by unfold updErr; rw [if_neg (by rw [h1]; decide), if_neg (by rw [h2]; decide), if_neg (by rw [h3]; decide), if_pos h4]) (by decide) hb)
  clear h1 h2 h3 h4
  have HIF := Lib.hid hIF; have HD1 := Lib.hid hD1; have HD2 := Lib.hid hD2; have HBE := Lib.hid hBE; have HUP := Lib.hid hUP; have HFI := Lib.hid hFI
  clear hIF hD1 hD2 hBE hUP hFI hd hd' hf hf' hfx hE hx
  generalize UpdatePost xs d d' w = Q at *
  obtain ⟨title, lang, rate, drop, last, ra, rc, regs, ea, ec, evs, ca, cc, cms⟩ := d
  obtain ⟨title', lang', rate', drop', last', ra', rc', regs', ea', ec', evs', ca', cc', cms'⟩ := d'
  simp only at HEV hle' HUP
  simp only [Doc.enc] at HD1 HD2 HBE HUP ⊢
  generalize hds : #[Value.string title, .string lang, .int .u8 rate, .bool drop, .int .i64 last, .slice ra regs.length rc, .slice ea evs.length ec, .slice ca cms.length cc] = ds at *
  generalize hes : #[Value.string title', .string lang', .int .u8 rate', .bool drop', .int .i64 last', .slice ra' regs'.length rc', .slice ea' evs'.length ec', .slice ca' cms'.length cc'] = es at *
  have f0 := box2_fst w ds es 28 28 0 (.string title) (by rw [← hds]; rfl)
  have f1 := box2_fst w ds es 28 28 1 (.string lang) (by rw [← hds]; rfl)
  have f2 := box2_fst w ds es 28 28 2 (.int .u8 rate) (by rw [← hds]; rfl)
  have f3 := box2_fst w ds es 28 28 3 (.bool drop) (by rw [← hds]; rfl)
  have f4 := box2_fst w ds es 28 28 4 (.int .i64 last) (by rw [← hds]; rfl)
  have f5 := box2_fst w ds es 28 28 5 (.slice ra regs.length rc) (by rw [← hds]; rfl)
  have f6 := box2_fst w ds es 28 28 6 (.slice ea evs.length ec) (by rw [← hds]; rfl)
  have f7 := box2_fst w ds es 28 28 7 (.slice ca cms.length cc) (by rw [← hds]; rfl)
  have g0 := box2_snd w ds es 28 28 0 (.string title') (by rw [← hes]; rfl)
  have g1 := box2_snd w ds es 28 28 1 (.string lang') (by rw [← hes]; rfl)
  have g2 := box2_snd w ds es 28 28 2 (.int .u8 rate') (by rw [← hes]; rfl)
  have g3 := box2_snd w ds es 28 28 3 (.bool drop') (by rw [← hes]; rfl)
  have g4 := box2_snd w ds es 28 28 4 (.int .i64 last') (by rw [← hes]; rfl)
  have g5 := box2_snd w ds es 28 28 5 (.slice ra' regs'.length rc') (by rw [← hes]; rfl)
  have g6 := box2_snd w ds es 28 28 6 (.slice ea' evs'.length ec') (by rw [← hes]; rfl)
  have g7 := box2_snd w ds es 28 28 7 (.slice ca' cms'.length cc') (by rw [← hes]; rfl)
  have HB := Lib.hid (fun (w1 : World) (h : Below (w.heap.size + 2) ((w.alloc (.cells ds 28)).alloc (.cells es 28)) w1) => box2_below h)
  have hb0 : Below (w.heap.size + 2) ((w.alloc (.cells ds 28)).alloc (.cells es 28)) ((w.alloc (.cells ds 28)).alloc (.cells es 28)) := Below.refl _ _
  have hsz : ((w.alloc (.cells ds 28)).alloc (.cells es 28)).heap.size = w.heap.size + 2 := by simp
  generalize hW0 : (w.alloc (.cells ds 28)).alloc (.cells es 28) = W0 at *
  have HW0 := Lib.hid hW0
  have HLT := Lib.hid (fun (w1 : World) (h : Below (w.heap.size + 2) W0 w1) => (show w.heap.size + 2 ≤ w1.heap.size by have := h.size; rw [hsz] at this; exact this))
  have HT0 := Lib.hid (fun (w2 w3 : World) (h : Below (w.heap.size + 2) W0 w2) (h3 : Below w2.heap.size w2 w3) => h.trans (h3.mono (HLT.out _ h)))
  clear hW0 hsz
  go_enter Tryz.func8, Tryz.ntmps8
  subst hds
  subst hes
  go_wp2_with fail
  rw [HW0.out]
  refine (HIF.out _ (HB.out _ hb0)).mono ?_
  rintro e w1 ⟨rfl, hb1⟩
  have hc1 := HT0.out _ _ hb0 hb1
  clear hb1 HIF
  go_wp2_with fail
  have HL2 := Lib.hid (fun o o' => ((hc1.alloc (HLT.out _ hc1) o).alloc (by have := HLT.out _ hc1; simp; omega) o' : Below (w.heap.size + 2) W0 ((w1.alloc o).alloc o')))
  refine wp_loop_rounds 3 ?_
  rw [rounds_succ]
  go_wp2_with fail
  refine (HD1.out _ (HB.out _ (HL2.out _ _))).mono ?_
  rintro e w2 ⟨rfl, hb2⟩
  have hc2 := HT0.out _ _ (HL2.out _ _) hb2
  have k0 := blk_cell (alloc_blk (heap_alloc_last w1 (.cells #[Value.string title, .string lang, .int .u8 rate, .bool drop, .int .i64 last, .slice ra regs.length rc, .slice ea evs.length ec, .slice ca cms.length cc, Value.string title', .string lang', .int .u8 rate', .bool drop', .int .i64 last', .slice ra' regs'.length rc', .slice ea' evs'.length ec', .slice ca' cms'.length cc'] 28)) _) (by rw [World.size_alloc, World.size_alloc]; omega) 8 (.string title') rfl w2 hb2
  have k1 := blk_cell (alloc_blk (heap_alloc_last w1 (.cells #[Value.string title, .string lang, .int .u8 rate, .bool drop, .int .i64 last, .slice ra regs.length rc, .slice ea evs.length ec, .slice ca cms.length cc, Value.string title', .string lang', .int .u8 rate', .bool drop', .int .i64 last', .slice ra' regs'.length rc', .slice ea' evs'.length ec', .slice ca' cms'.length cc'] 28)) _) (by rw [World.size_alloc, World.size_alloc]; omega) 9 (.string lang') rfl w2 hb2
  have k2 := blk_cell (alloc_blk (heap_alloc_last w1 (.cells #[Value.string title, .string lang, .int .u8 rate, .bool drop, .int .i64 last, .slice ra regs.length rc, .slice ea evs.length ec, .slice ca cms.length cc, Value.string title', .string lang', .int .u8 rate', .bool drop', .int .i64 last', .slice ra' regs'.length rc', .slice ea' evs'.length ec', .slice ca' cms'.length cc'] 28)) _) (by rw [World.size_alloc, World.size_alloc]; omega) 10 (.int .u8 rate') rfl w2 hb2
  have k3 := blk_cell (alloc_blk (heap_alloc_last w1 (.cells #[Value.string title, .string lang, .int .u8 rate, .bool drop, .int .i64 last, .slice ra regs.length rc, .slice ea evs.length ec, .slice ca cms.length cc, Value.string title', .string lang', .int .u8 rate', .bool drop', .int .i64 last', .slice ra' regs'.length rc', .slice ea' evs'.length ec', .slice ca' cms'.length cc'] 28)) _) (by rw [World.size_alloc, World.size_alloc]; omega) 11 (.bool drop') rfl w2 hb2
  have k4 := blk_cell (alloc_blk (heap_alloc_last w1 (.cells #[Value.string title, .string lang, .int .u8 rate, .bool drop, .int .i64 last, .slice ra regs.length rc, .slice ea evs.length ec, .slice ca cms.length cc, Value.string title', .string lang', .int .u8 rate', .bool drop', .int .i64 last', .slice ra' regs'.length rc', .slice ea' evs'.length ec', .slice ca' cms'.length cc'] 28)) _) (by rw [World.size_alloc, World.size_alloc]; omega) 12 (.int .i64 last') rfl w2 hb2
  have k5 := blk_cell (alloc_blk (heap_alloc_last w1 (.cells #[Value.string title, .string lang, .int .u8 rate, .bool drop, .int .i64 last, .slice ra regs.length rc, .slice ea evs.length ec, .slice ca cms.length cc, Value.string title', .string lang', .int .u8 rate', .bool drop', .int .i64 last', .slice ra' regs'.length rc', .slice ea' evs'.length ec', .slice ca' cms'.length cc'] 28)) _) (by rw [World.size_alloc, World.size_alloc]; omega) 13 (.slice ra' regs'.length rc') rfl w2 hb2
  have k6 := blk_cell (alloc_blk (heap_alloc_last w1 (.cells #[Value.string title, .string lang, .int .u8 rate, .bool drop, .int .i64 last, .slice ra regs.length rc, .slice ea evs.length ec, .slice ca cms.length cc, Value.string title', .string lang', .int .u8 rate', .bool drop', .int .i64 last', .slice ra' regs'.length rc', .slice ea' evs'.length ec', .slice ca' cms'.length cc'] 28)) _) (by rw [World.size_alloc, World.size_alloc]; omega) 14 (.slice ea' evs'.length ec') rfl w2 hb2
  have k7 := blk_cell (alloc_blk (heap_alloc_last w1 (.cells #[Value.string title, .string lang, .int .u8 rate, .bool drop, .int .i64 last, .slice ra regs.length rc, .slice ea evs.length ec, .slice ca cms.length cc, Value.string title', .string lang', .int .u8 rate', .bool drop', .int .i64 last', .slice ra' regs'.length rc', .slice ea' evs'.length ec', .slice ca' cms'.length cc'] 28)) _) (by rw [World.size_alloc, World.size_alloc]; omega) 15 (.slice ca' cms'.length cc') rfl w2 hb2
  clear hb2 HD1
  go_wp2_with fail
  have HL1 := Lib.hid (fun o => (hc2.alloc (HLT.out _ hc2) o : Below (w.heap.size + 2) W0 (w2.alloc o)))
  rw [rounds_succ]
  go_wp2_with fail
  refine (HD2.out _ (HB.out _ (HL1.out _))).mono ?_
  rintro e w3 ⟨rfl, hb3⟩
  have hc3 := HT0.out _ _ (HL1.out _) hb3
  clear hb3 HD2 k0 k1 k2 k3 k4 k5 k6 k7
  go_wp2_with fail
  rw [rounds_succ]
  go_wp2_with fail
  refine (HBE.out _ (HB.out _ hc3)).mono ?_
  rintro e w4 ⟨rfl, hb4⟩
  have hc4 := HT0.out _ _ hc3 hb4
  clear hb4
  go_wp2_with fail
  exact HQ.out _ (HB.out _ hc4)

def OwnLk {α : Type} (f : α → List Lk) (ys : List Lk) (zs : List α) (B : Nat) (W : World) (k : Nat) (v : Value) (wr : World) : Prop :=
  wr.ownsRow B 49 3 v (ys ++ upTo f zs k).length ((ys ++ upTo f zs k).flatMap Lk.enc) ∧ Below B W wr
theorem Tryz.info49 : (Tryz.prog.info? 49).map (fun i => (i.zero, i.size, i.bytes)) = some (some (.agg #[.int .i64 0, .int .i64 0, .int .u8 0]), 3, 24) := by kernel_rfl
theorem updOne_one (b a : List Ev) (x : Lk) : (updOne b a x).length ≤ 1 := by unfold updOne; split <;> simp
theorem newOne_one (xs : List Lk) (e : Ev) : (newOne xs e).length ≤ 1 := by unfold newOne; split <;> simp

end Go.Proofs.YtdgakmpopgpijaaGreatDoor
