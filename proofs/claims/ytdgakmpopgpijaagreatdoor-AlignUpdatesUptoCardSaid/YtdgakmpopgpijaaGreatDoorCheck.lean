/- The contract of align.Check: the first error of links between a template and a target. -/
import Derived.Test.YtdgakmpopgpijaaGreatDoorAwake
set_option linter.unusedVariables false
namespace Go.Proofs.YtdgakmpopgpijaaGreatDoor
open Go.RowKit

/-- E if an element is bad, else the rest. -/
def firstBad {α : Type} (p : α → Bool) (E : Int) (xs : List α) (rest : Int) : Int := if xs.any p = true then E else rest
theorem firstBad_at {α : Type} (p : α → Bool) (E : Int) (xs : List α) (rest : Int) (k : Nat) (x : α) (h : xs[k]? = some x) : firstBad p E (xs.drop k) rest = if p x = true then E else firstBad p E (xs.drop (k + 1)) rest := by
  unfold firstBad
  rw [drop_at xs k x h, List.any_cons]
  cases p x <;> simp
theorem firstBad_end {α : Type} (p : α → Bool) (E : Int) (xs : List α) (rest : Int) : firstBad p E (xs.drop xs.length) rest = rest := by
  rw [List.drop_length]; rfl
def aimAt (xs : List Lk) : Nat → Int → Bool
  | 0 => fun _ => false
  | k + 1 => fun y => match xs[k]? with
    | none => aimAt xs k y
    | some x => if y = x.tgt then true else aimAt xs k y
theorem aimAt_put (xs : List Lk) (k : Nat) (x : Lk) (h : xs[k]? = some x) : (fun y => if y = x.tgt then true else aimAt xs k y) = aimAt xs (k + 1) := by
  funext y
  simp only [aimAt, h]
/-- Whether a link names an event that is not there. -/
def badNone (evs evs' : List Ev) (x : Lk) : Bool := (!(x.st == 4) && !decide (0 ≤ posOf (hasId x.tpl) evs)) || (!(x.tgt == 0) && !decide (0 ≤ posOf (hasId x.tgt) evs'))
/-- Whether an orphan's event is there. -/
def badState (evs : List Ev) (x : Lk) : Bool := (x.st == 4) && decide (0 ≤ posOf (hasId x.tpl) evs)
/-- Whether an event has no link. -/
def badTpl (xs : List Lk) (e : Ev) : Bool := decide (posOf (hasTpl e.id) xs < 0)
/-- Whether an event is no link's target. -/
def badTgt (xs : List Lk) (e : Ev) : Bool := !aimAt xs xs.length e.id
def chk4 (xs : List Lk) (evs' : List Ev) : Int := firstBad (badTgt xs) 7 evs' 0
def chk3 (xs : List Lk) (evs evs' : List Ev) : Int := firstBad (badTpl xs) 7 evs (chk4 xs evs')
def chk2 (xs : List Lk) (evs evs' : List Ev) : Int := firstBad (badState evs) 17 xs (chk3 xs evs evs')
def chk1 (xs : List Lk) (evs evs' : List Ev) : Int := firstBad (badNone evs evs') 6 xs (chk2 xs evs evs')
/-- The first error of links between a template and a target. -/
def chkErr (xs : List Lk) (d d' : Doc) : Int := if formB xs = false then 4 else if (docErr d != 0) = true then docErr d else if (docErr d' != 0) = true then docErr d' else chk1 xs d.evs d'.evs

theorem wpList_putB {ops : Array Oper} {rest : List Oper} {o : Oper} {a : Act} {Q : Exit → Act → World → Prop} (w : World) (hg : o.guard = none) (m x v : Operand) (hop : o.op = Op.mapUpdate 65 m x v)
    (b n : Nat) (f : Int → Bool) (hM : BMap w b n f) (hm : a.eval m = .map (some b)) (z : Int) (hz : i64 z) (hx : a.eval x = .int .i64 z) (val : Bool) (hv : a.eval v = .bool val) (hn : n < maxLen)
    (hK : ∀ w', BMap w' b (n + 1) (fun y => if y = z then val else f y) → w.grownBy w' (some b) → wpList Tryz.prog ops Q rest (a.put o.dst undef) w') : wpList Tryz.prog ops Q (o :: rest) a w := by
  refine wpList_plain hg fun K' hK' => ?_
  obtain ⟨w', hrun, r1, r2⟩ := hM.put hz hn val
  unfold Oper.wp
  simp [execOp, hop, hm, hx, hv, hrun, Result.andThen]
  exact hK' _ _ (hK w' r1 r2)

set_option maxRecDepth 100000 in
set_option maxHeartbeats 3200000 in
theorem check_form (a : Option Addr) (cap : Nat) (xs : List Lk) (d d' : Doc) (w : World) (hE : Env w) (hx : LksAt w a xs) (hfx : ∀ x ∈ xs, x.fits) (hlx : xs.length ≤ 4000000) (hd : d.lies w) (hd' : d'.lies w) (hf : d.fits) (hf' : d'.fits) (h1 : formB xs = false) :
    Calls Tryz.prog 11 #[.slice a xs.length cap, .agg d.enc.toArray, .agg d'.enc.toArray] w fun e w' => e = .returned (.int .i64 (chkErr xs d d')) ∧ Below w.heap.size w w' := by
  have hIF := fun (w1 : World) (h : Below w.heap.size w w1) => inForm_calls a cap xs w1 (hx.later h) hfx hlx
  have hD1 := fun (w1 : World) (h : Below w.heap.size w w1) => docCheck_calls d w1 (hE.below h (Nat.le_refl _)) (Doc.later hd h) hf
  have hD2 := fun (w1 : World) (h : Below w.heap.size w w1) => docCheck_calls d' w1 (hE.below h (Nat.le_refl _)) (Doc.later hd' h) hf'
  have hH1 := fun (id : Int) (w1 : World) (h : Below w.heap.size w w1) => has_calls d id w1 (hd.2.1.later h) hf.2.2.2.2.2.2.2.2.1
  have hH2 := fun (id : Int) (w1 : World) (h : Below w.heap.size w w1) => has_calls d' id w1 (hd'.2.1.later h) hf'.2.2.2.2.2.2.2.2.1
  have hFI := fun (id : Int) (w1 : World) (h : Below w.heap.size w w1) => linkFind_calls a cap xs id w1 (hx.later h) hlx
  have HX := Lib.hid hx
  have HFX := Lib.hid hfx
  have HEV := Lib.hid hd.2.1
  have HEV' := Lib.hid hd'.2.1
  have HFE' := Lib.hid hf'.2.2.2.2.2.2.2.1
  have hle := hf.2.2.2.2.2.2.2.2.1
  have hle' := hf'.2.2.2.2.2.2.2.2.1
  rw [h1] at hIF
  rw [show chkErr xs d d' = 4 by unfold chkErr; rw [if_pos h1]]
  obtain ⟨G, hG⟩ : ∃ G : Int, G = 4 := ⟨_, rfl⟩
  rw [← hG]
  have HG4 := Lib.hid hG
  clear hG
  have HQ := Lib.hid (fun w' (hb : Below w.heap.size w w') => (show (fun (e : Ending) w' => e = .returned (.int .i64 G) ∧ Below w.heap.size w w') (.returned (.int .i64 G)) w' from ⟨rfl, hb⟩))
  have HIF := Lib.hid hIF; have HD1 := Lib.hid hD1; have HD2 := Lib.hid hD2; have HH1 := Lib.hid hH1; have HH2 := Lib.hid hH2; have HFI := Lib.hid hFI
  clear hIF hD1 hD2 hH1 hH2 hFI hd hd' hf hf' hfx hE hx
  generalize (fun (e : Ending) w' => e = .returned (.int .i64 G) ∧ Below w.heap.size w w') = Q at *
  obtain ⟨title, lang, rate, drop, last, ra, rc, regs, ea, ec, evs, ca, cc, cms⟩ := d
  obtain ⟨title', lang', rate', drop', last', ra', rc', regs', ea', ec', evs', ca', cc', cms'⟩ := d'
  simp only at HEV HEV' hle hle' HH1 HH2 HFE'
  simp only [Doc.enc] at HD1 HD2 HH1 HH2 ⊢
  generalize hds : #[Value.string title, .string lang, .int .u8 rate, .bool drop, .int .i64 last, .slice ra regs.length rc, .slice ea evs.length ec, .slice ca cms.length cc] = ds at *
  generalize hes : #[Value.string title', .string lang', .int .u8 rate', .bool drop', .int .i64 last', .slice ra' regs'.length rc', .slice ea' evs'.length ec', .slice ca' cms'.length cc'] = es at *
  have f0 := box2_fst w ds es 28 28 0 (.string title) (by rw [← hds]; rfl)
  have f1 := box2_fst w ds es 28 28 1 (.string lang) (by rw [← hds]; rfl)
  have f2 := box2_fst w ds es 28 28 2 (.int .u8 rate) (by rw [← hds]; rfl)
  have f3 := box2_fst w ds es 28 28 3 (.bool drop) (by rw [← hds]; rfl)
  have f4 := box2_fst w ds es 28 28 4 (.int .i64 last) (by rw [← hds]; rfl)
  have f5 := box2_fst w ds es 28 28 5 (.slice ra regs.length rc) (by rw [← hds]; rfl)
  have f6 := box2_fst w ds es 28 28 6 (.slice ea evs.length ec) (by rw [← hds]; rfl)
  have f7 := box2_fst w ds es 28 28 7 (.slice ca cms.length cc) (by rw [← hds]; rfl)
  have g0 := box2_snd w ds es 28 28 0 (.string title') (by rw [← hes]; rfl)
  have g1 := box2_snd w ds es 28 28 1 (.string lang') (by rw [← hes]; rfl)
  have g2 := box2_snd w ds es 28 28 2 (.int .u8 rate') (by rw [← hes]; rfl)
  have g3 := box2_snd w ds es 28 28 3 (.bool drop') (by rw [← hes]; rfl)
  have g4 := box2_snd w ds es 28 28 4 (.int .i64 last') (by rw [← hes]; rfl)
  have g5 := box2_snd w ds es 28 28 5 (.slice ra' regs'.length rc') (by rw [← hes]; rfl)
  have g6 := box2_snd w ds es 28 28 6 (.slice ea' evs'.length ec') (by rw [← hes]; rfl)
  have g7 := box2_snd w ds es 28 28 7 (.slice ca' cms'.length cc') (by rw [← hes]; rfl)
  have HB := Lib.hid (fun (w1 : World) (h : Below (w.heap.size + 2) ((w.alloc (.cells ds 28)).alloc (.cells es 28)) w1) => box2_below h)
  have hb0 : Below (w.heap.size + 2) ((w.alloc (.cells ds 28)).alloc (.cells es 28)) ((w.alloc (.cells ds 28)).alloc (.cells es 28)) := Below.refl _ _
  have hsz : ((w.alloc (.cells ds 28)).alloc (.cells es 28)).heap.size = w.heap.size + 2 := by simp
  generalize hW0 : (w.alloc (.cells ds 28)).alloc (.cells es 28) = W0 at *
  have HW0 := Lib.hid hW0
  have HLT := Lib.hid (fun (w1 : World) (h : Below (w.heap.size + 2) W0 w1) => (show w.heap.size + 2 ≤ w1.heap.size by have := h.size; rw [hsz] at this; exact this))
  have HT0 := Lib.hid (fun (w2 w3 : World) (h : Below (w.heap.size + 2) W0 w2) (h3 : Below w2.heap.size w2 w3) => h.trans (h3.mono (HLT.out _ h)))
  have hmm := @run_makeMap Tryz.prog
  clear hW0 hsz
  go_enter Tryz.func11, Tryz.ntmps11
  subst hds
  subst hes
  go_wp2_with fail
  rw [HW0.out]
  refine (HIF.out _ (HB.out _ hb0)).mono ?_
  rintro e w1 ⟨rfl, hb1⟩
  have hc1 := HT0.out _ _ hb0 hb1
  clear hb1 HIF
  go_wp2_with fail
  have hq := HQ.out _ (HB.out _ hc1)
  rw [HG4.out] at hq
  exact hq

set_option maxRecDepth 100000 in
set_option maxHeartbeats 3200000 in
theorem check_tpl (a : Option Addr) (cap : Nat) (xs : List Lk) (d d' : Doc) (w : World) (hE : Env w) (hx : LksAt w a xs) (hfx : ∀ x ∈ xs, x.fits) (hlx : xs.length ≤ 4000000) (hd : d.lies w) (hd' : d'.lies w) (hf : d.fits) (hf' : d'.fits) (h1 : formB xs = true) (h2 : (docErr d != 0) = true) :
    Calls Tryz.prog 11 #[.slice a xs.length cap, .agg d.enc.toArray, .agg d'.enc.toArray] w fun e w' => e = .returned (.int .i64 (chkErr xs d d')) ∧ Below w.heap.size w w' := by
  have hIF := fun (w1 : World) (h : Below w.heap.size w w1) => inForm_calls a cap xs w1 (hx.later h) hfx hlx
  have hD1 := fun (w1 : World) (h : Below w.heap.size w w1) => docCheck_calls d w1 (hE.below h (Nat.le_refl _)) (Doc.later hd h) hf
  have hD2 := fun (w1 : World) (h : Below w.heap.size w w1) => docCheck_calls d' w1 (hE.below h (Nat.le_refl _)) (Doc.later hd' h) hf'
  have hH1 := fun (id : Int) (w1 : World) (h : Below w.heap.size w w1) => has_calls d id w1 (hd.2.1.later h) hf.2.2.2.2.2.2.2.2.1
  have hH2 := fun (id : Int) (w1 : World) (h : Below w.heap.size w w1) => has_calls d' id w1 (hd'.2.1.later h) hf'.2.2.2.2.2.2.2.2.1
  have hFI := fun (id : Int) (w1 : World) (h : Below w.heap.size w w1) => linkFind_calls a cap xs id w1 (hx.later h) hlx
  have HX := Lib.hid hx
  have HFX := Lib.hid hfx
  have HEV := Lib.hid hd.2.1
  have HEV' := Lib.hid hd'.2.1
  have HFE' := Lib.hid hf'.2.2.2.2.2.2.2.1
  have hle := hf.2.2.2.2.2.2.2.2.1
  have hle' := hf'.2.2.2.2.2.2.2.2.1
  rw [h1] at hIF
  rw [show chkErr xs d d' = docErr d by unfold chkErr; rw [if_neg (by rw [h1]; decide), if_pos h2]]
  generalize docErr d = G at *
  have HQ := Lib.hid (fun w' (hb : Below w.heap.size w w') => (show (fun (e : Ending) w' => e = .returned (.int .i64 G) ∧ Below w.heap.size w w') (.returned (.int .i64 G)) w' from ⟨rfl, hb⟩))
  have HIF := Lib.hid hIF; have HD1 := Lib.hid hD1; have HD2 := Lib.hid hD2; have HH1 := Lib.hid hH1; have HH2 := Lib.hid hH2; have HFI := Lib.hid hFI
  clear hIF hD1 hD2 hH1 hH2 hFI hd hd' hf hf' hfx hE hx
  generalize (fun (e : Ending) w' => e = .returned (.int .i64 G) ∧ Below w.heap.size w w') = Q at *
  obtain ⟨title, lang, rate, drop, last, ra, rc, regs, ea, ec, evs, ca, cc, cms⟩ := d
  obtain ⟨title', lang', rate', drop', last', ra', rc', regs', ea', ec', evs', ca', cc', cms'⟩ := d'
  simp only at HEV HEV' hle hle' HH1 HH2 HFE'
  simp only [Doc.enc] at HD1 HD2 HH1 HH2 ⊢
  generalize hds : #[Value.string title, .string lang, .int .u8 rate, .bool drop, .int .i64 last, .slice ra regs.length rc, .slice ea evs.length ec, .slice ca cms.length cc] = ds at *
  generalize hes : #[Value.string title', .string lang', .int .u8 rate', .bool drop', .int .i64 last', .slice ra' regs'.length rc', .slice ea' evs'.length ec', .slice ca' cms'.length cc'] = es at *
  have f0 := box2_fst w ds es 28 28 0 (.string title) (by rw [← hds]; rfl)
  have f1 := box2_fst w ds es 28 28 1 (.string lang) (by rw [← hds]; rfl)
  have f2 := box2_fst w ds es 28 28 2 (.int .u8 rate) (by rw [← hds]; rfl)
  have f3 := box2_fst w ds es 28 28 3 (.bool drop) (by rw [← hds]; rfl)
  have f4 := box2_fst w ds es 28 28 4 (.int .i64 last) (by rw [← hds]; rfl)
  have f5 := box2_fst w ds es 28 28 5 (.slice ra regs.length rc) (by rw [← hds]; rfl)
  have f6 := box2_fst w ds es 28 28 6 (.slice ea evs.length ec) (by rw [← hds]; rfl)
  have f7 := box2_fst w ds es 28 28 7 (.slice ca cms.length cc) (by rw [← hds]; rfl)
  have g0 := box2_snd w ds es 28 28 0 (.string title') (by rw [← hes]; rfl)
  have g1 := box2_snd w ds es 28 28 1 (.string lang') (by rw [← hes]; rfl)
  have g2 := box2_snd w ds es 28 28 2 (.int .u8 rate') (by rw [← hes]; rfl)
  have g3 := box2_snd w ds es 28 28 3 (.bool drop') (by rw [← hes]; rfl)
  have g4 := box2_snd w ds es 28 28 4 (.int .i64 last') (by rw [← hes]; rfl)
  have g5 := box2_snd w ds es 28 28 5 (.slice ra' regs'.length rc') (by rw [← hes]; rfl)
  have g6 := box2_snd w ds es 28 28 6 (.slice ea' evs'.length ec') (by rw [← hes]; rfl)
  have g7 := box2_snd w ds es 28 28 7 (.slice ca' cms'.length cc') (by rw [← hes]; rfl)
  have HB := Lib.hid (fun (w1 : World) (h : Below (w.heap.size + 2) ((w.alloc (.cells ds 28)).alloc (.cells es 28)) w1) => box2_below h)
  have hb0 : Below (w.heap.size + 2) ((w.alloc (.cells ds 28)).alloc (.cells es 28)) ((w.alloc (.cells ds 28)).alloc (.cells es 28)) := Below.refl _ _
  have hsz : ((w.alloc (.cells ds 28)).alloc (.cells es 28)).heap.size = w.heap.size + 2 := by simp
  generalize hW0 : (w.alloc (.cells ds 28)).alloc (.cells es 28) = W0 at *
  have HW0 := Lib.hid hW0
  have HLT := Lib.hid (fun (w1 : World) (h : Below (w.heap.size + 2) W0 w1) => (show w.heap.size + 2 ≤ w1.heap.size by have := h.size; rw [hsz] at this; exact this))
  have HT0 := Lib.hid (fun (w2 w3 : World) (h : Below (w.heap.size + 2) W0 w2) (h3 : Below w2.heap.size w2 w3) => h.trans (h3.mono (HLT.out _ h)))
  have hmm := @run_makeMap Tryz.prog
  clear hW0 hsz
  go_enter Tryz.func11, Tryz.ntmps11
  subst hds
  subst hes
  go_wp2_with fail
  rw [HW0.out]
  refine (HIF.out _ (HB.out _ hb0)).mono ?_
  rintro e w1 ⟨rfl, hb1⟩
  have hc1 := HT0.out _ _ hb0 hb1
  clear hb1 HIF
  go_wp2_with fail
  have HL2 := Lib.hid (fun o o' => ((hc1.alloc (HLT.out _ hc1) o).alloc (by have := HLT.out _ hc1; simp; omega) o' : Below (w.heap.size + 2) W0 ((w1.alloc o).alloc o')))
  refine wp_loop_rounds 3 ?_
  rw [rounds_succ]
  go_wp2_with fail
  refine (HD1.out _ (HB.out _ (HL2.out _ _))).mono ?_
  rintro e w2 ⟨rfl, hb2⟩
  have hc2 := HT0.out _ _ (HL2.out _ _) hb2
  have k0 := blk_cell (alloc_blk (heap_alloc_last w1 (.cells #[Value.string title, .string lang, .int .u8 rate, .bool drop, .int .i64 last, .slice ra regs.length rc, .slice ea evs.length ec, .slice ca cms.length cc, Value.string title', .string lang', .int .u8 rate', .bool drop', .int .i64 last', .slice ra' regs'.length rc', .slice ea' evs'.length ec', .slice ca' cms'.length cc'] 28)) _) (by rw [World.size_alloc, World.size_alloc]; omega) 8 (.string title') rfl w2 hb2
  have k1 := blk_cell (alloc_blk (heap_alloc_last w1 (.cells #[Value.string title, .string lang, .int .u8 rate, .bool drop, .int .i64 last, .slice ra regs.length rc, .slice ea evs.length ec, .slice ca cms.length cc, Value.string title', .string lang', .int .u8 rate', .bool drop', .int .i64 last', .slice ra' regs'.length rc', .slice ea' evs'.length ec', .slice ca' cms'.length cc'] 28)) _) (by rw [World.size_alloc, World.size_alloc]; omega) 9 (.string lang') rfl w2 hb2
  have k2 := blk_cell (alloc_blk (heap_alloc_last w1 (.cells #[Value.string title, .string lang, .int .u8 rate, .bool drop, .int .i64 last, .slice ra regs.length rc, .slice ea evs.length ec, .slice ca cms.length cc, Value.string title', .string lang', .int .u8 rate', .bool drop', .int .i64 last', .slice ra' regs'.length rc', .slice ea' evs'.length ec', .slice ca' cms'.length cc'] 28)) _) (by rw [World.size_alloc, World.size_alloc]; omega) 10 (.int .u8 rate') rfl w2 hb2
  have k3 := blk_cell (alloc_blk (heap_alloc_last w1 (.cells #[Value.string title, .string lang, .int .u8 rate, .bool drop, .int .i64 last, .slice ra regs.length rc, .slice ea evs.length ec, .slice ca cms.length cc, Value.string title', .string lang', .int .u8 rate', .bool drop', .int .i64 last', .slice ra' regs'.length rc', .slice ea' evs'.length ec', .slice ca' cms'.length cc'] 28)) _) (by rw [World.size_alloc, World.size_alloc]; omega) 11 (.bool drop') rfl w2 hb2
  have k4 := blk_cell (alloc_blk (heap_alloc_last w1 (.cells #[Value.string title, .string lang, .int .u8 rate, .bool drop, .int .i64 last, .slice ra regs.length rc, .slice ea evs.length ec, .slice ca cms.length cc, Value.string title', .string lang', .int .u8 rate', .bool drop', .int .i64 last', .slice ra' regs'.length rc', .slice ea' evs'.length ec', .slice ca' cms'.length cc'] 28)) _) (by rw [World.size_alloc, World.size_alloc]; omega) 12 (.int .i64 last') rfl w2 hb2
  have k5 := blk_cell (alloc_blk (heap_alloc_last w1 (.cells #[Value.string title, .string lang, .int .u8 rate, .bool drop, .int .i64 last, .slice ra regs.length rc, .slice ea evs.length ec, .slice ca cms.length cc, Value.string title', .string lang', .int .u8 rate', .bool drop', .int .i64 last', .slice ra' regs'.length rc', .slice ea' evs'.length ec', .slice ca' cms'.length cc'] 28)) _) (by rw [World.size_alloc, World.size_alloc]; omega) 13 (.slice ra' regs'.length rc') rfl w2 hb2
  have k6 := blk_cell (alloc_blk (heap_alloc_last w1 (.cells #[Value.string title, .string lang, .int .u8 rate, .bool drop, .int .i64 last, .slice ra regs.length rc, .slice ea evs.length ec, .slice ca cms.length cc, Value.string title', .string lang', .int .u8 rate', .bool drop', .int .i64 last', .slice ra' regs'.length rc', .slice ea' evs'.length ec', .slice ca' cms'.length cc'] 28)) _) (by rw [World.size_alloc, World.size_alloc]; omega) 14 (.slice ea' evs'.length ec') rfl w2 hb2
  have k7 := blk_cell (alloc_blk (heap_alloc_last w1 (.cells #[Value.string title, .string lang, .int .u8 rate, .bool drop, .int .i64 last, .slice ra regs.length rc, .slice ea evs.length ec, .slice ca cms.length cc, Value.string title', .string lang', .int .u8 rate', .bool drop', .int .i64 last', .slice ra' regs'.length rc', .slice ea' evs'.length ec', .slice ca' cms'.length cc'] 28)) _) (by rw [World.size_alloc, World.size_alloc]; omega) 15 (.slice ca' cms'.length cc') rfl w2 hb2
  clear hb2 HD1
  go_wp2_with fail
  exact HQ.out _ (HB.out _ hc2)

set_option maxRecDepth 100000 in
set_option maxHeartbeats 3200000 in
theorem check_tgt (a : Option Addr) (cap : Nat) (xs : List Lk) (d d' : Doc) (w : World) (hE : Env w) (hx : LksAt w a xs) (hfx : ∀ x ∈ xs, x.fits) (hlx : xs.length ≤ 4000000) (hd : d.lies w) (hd' : d'.lies w) (hf : d.fits) (hf' : d'.fits) (h1 : formB xs = true) (h2 : docErr d = 0) (h3 : (docErr d' != 0) = true) :
    Calls Tryz.prog 11 #[.slice a xs.length cap, .agg d.enc.toArray, .agg d'.enc.toArray] w fun e w' => e = .returned (.int .i64 (chkErr xs d d')) ∧ Below w.heap.size w w' := by
  have hIF := fun (w1 : World) (h : Below w.heap.size w w1) => inForm_calls a cap xs w1 (hx.later h) hfx hlx
  have hD1 := fun (w1 : World) (h : Below w.heap.size w w1) => docCheck_calls d w1 (hE.below h (Nat.le_refl _)) (Doc.later hd h) hf
  have hD2 := fun (w1 : World) (h : Below w.heap.size w w1) => docCheck_calls d' w1 (hE.below h (Nat.le_refl _)) (Doc.later hd' h) hf'
  have hH1 := fun (id : Int) (w1 : World) (h : Below w.heap.size w w1) => has_calls d id w1 (hd.2.1.later h) hf.2.2.2.2.2.2.2.2.1
  have hH2 := fun (id : Int) (w1 : World) (h : Below w.heap.size w w1) => has_calls d' id w1 (hd'.2.1.later h) hf'.2.2.2.2.2.2.2.2.1
  have hFI := fun (id : Int) (w1 : World) (h : Below w.heap.size w w1) => linkFind_calls a cap xs id w1 (hx.later h) hlx
  have HX := Lib.hid hx
  have HFX := Lib.hid hfx
  have HEV := Lib.hid hd.2.1
  have HEV' := Lib.hid hd'.2.1
  have HFE' := Lib.hid hf'.2.2.2.2.2.2.2.1
  have hle := hf.2.2.2.2.2.2.2.2.1
  have hle' := hf'.2.2.2.2.2.2.2.2.1
  rw [h1] at hIF
  rw [h2] at hD1
  rw [show chkErr xs d d' = docErr d' by unfold chkErr; rw [if_neg (by rw [h1]; decide), if_neg (by rw [h2]; decide), if_pos h3]]
  clear h2
  generalize docErr d' = G at *
  have HQ := Lib.hid (fun w' (hb : Below w.heap.size w w') => (show (fun (e : Ending) w' => e = .returned (.int .i64 G) ∧ Below w.heap.size w w') (.returned (.int .i64 G)) w' from ⟨rfl, hb⟩))
  have HIF := Lib.hid hIF; have HD1 := Lib.hid hD1; have HD2 := Lib.hid hD2; have HH1 := Lib.hid hH1; have HH2 := Lib.hid hH2; have HFI := Lib.hid hFI
  clear hIF hD1 hD2 hH1 hH2 hFI hd hd' hf hf' hfx hE hx
  generalize (fun (e : Ending) w' => e = .returned (.int .i64 G) ∧ Below w.heap.size w w') = Q at *
  obtain ⟨title, lang, rate, drop, last, ra, rc, regs, ea, ec, evs, ca, cc, cms⟩ := d
  obtain ⟨title', lang', rate', drop', last', ra', rc', regs', ea', ec', evs', ca', cc', cms'⟩ := d'
  simp only at HEV HEV' hle hle' HH1 HH2 HFE'
  simp only [Doc.enc] at HD1 HD2 HH1 HH2 ⊢
  generalize hds : #[Value.string title, .string lang, .int .u8 rate, .bool drop, .int .i64 last, .slice ra regs.length rc, .slice ea evs.length ec, .slice ca cms.length cc] = ds at *
  generalize hes : #[Value.string title', .string lang', .int .u8 rate', .bool drop', .int .i64 last', .slice ra' regs'.length rc', .slice ea' evs'.length ec', .slice ca' cms'.length cc'] = es at *
  have f0 := box2_fst w ds es 28 28 0 (.string title) (by rw [← hds]; rfl)
  have f1 := box2_fst w ds es 28 28 1 (.string lang) (by rw [← hds]; rfl)
  have f2 := box2_fst w ds es 28 28 2 (.int .u8 rate) (by rw [← hds]; rfl)
  have f3 := box2_fst w ds es 28 28 3 (.bool drop) (by rw [← hds]; rfl)
  have f4 := box2_fst w ds es 28 28 4 (.int .i64 last) (by rw [← hds]; rfl)
  have f5 := box2_fst w ds es 28 28 5 (.slice ra regs.length rc) (by rw [← hds]; rfl)
  have f6 := box2_fst w ds es 28 28 6 (.slice ea evs.length ec) (by rw [← hds]; rfl)
  have f7 := box2_fst w ds es 28 28 7 (.slice ca cms.length cc) (by rw [← hds]; rfl)
  have g0 := box2_snd w ds es 28 28 0 (.string title') (by rw [← hes]; rfl)
  have g1 := box2_snd w ds es 28 28 1 (.string lang') (by rw [← hes]; rfl)
  have g2 := box2_snd w ds es 28 28 2 (.int .u8 rate') (by rw [← hes]; rfl)
  have g3 := box2_snd w ds es 28 28 3 (.bool drop') (by rw [← hes]; rfl)
  have g4 := box2_snd w ds es 28 28 4 (.int .i64 last') (by rw [← hes]; rfl)
  have g5 := box2_snd w ds es 28 28 5 (.slice ra' regs'.length rc') (by rw [← hes]; rfl)
  have g6 := box2_snd w ds es 28 28 6 (.slice ea' evs'.length ec') (by rw [← hes]; rfl)
  have g7 := box2_snd w ds es 28 28 7 (.slice ca' cms'.length cc') (by rw [← hes]; rfl)
  have HB := Lib.hid (fun (w1 : World) (h : Below (w.heap.size + 2) ((w.alloc (.cells ds 28)).alloc (.cells es 28)) w1) => box2_below h)
  have hb0 : Below (w.heap.size + 2) ((w.alloc (.cells ds 28)).alloc (.cells es 28)) ((w.alloc (.cells ds 28)).alloc (.cells es 28)) := Below.refl _ _
  have hsz : ((w.alloc (.cells ds 28)).alloc (.cells es 28)).heap.size = w.heap.size + 2 := by simp
  generalize hW0 : (w.alloc (.cells ds 28)).alloc (.cells es 28) = W0 at *
  have HW0 := Lib.hid hW0
  have HLT := Lib.hid (fun (w1 : World) (h : Below (w.heap.size + 2) W0 w1) => (show w.heap.size + 2 ≤ w1.heap.size by have := h.size; rw [hsz] at this; exact this))
  have HT0 := Lib.hid (fun (w2 w3 : World) (h : Below (w.heap.size + 2) W0 w2) (h3 : Below w2.heap.size w2 w3) => h.trans (h3.mono (HLT.out _ h)))
  have hmm := @run_makeMap Tryz.prog
  clear hW0 hsz
  go_enter Tryz.func11, Tryz.ntmps11
  subst hds
  subst hes
  go_wp2_with fail
  rw [HW0.out]
  refine (HIF.out _ (HB.out _ hb0)).mono ?_
  rintro e w1 ⟨rfl, hb1⟩
  have hc1 := HT0.out _ _ hb0 hb1
  clear hb1 HIF
  go_wp2_with fail
  have HL2 := Lib.hid (fun o o' => ((hc1.alloc (HLT.out _ hc1) o).alloc (by have := HLT.out _ hc1; simp; omega) o' : Below (w.heap.size + 2) W0 ((w1.alloc o).alloc o')))
  refine wp_loop_rounds 3 ?_
  rw [rounds_succ]
  go_wp2_with fail
  refine (HD1.out _ (HB.out _ (HL2.out _ _))).mono ?_
  rintro e w2 ⟨rfl, hb2⟩
  have hc2 := HT0.out _ _ (HL2.out _ _) hb2
  have k0 := blk_cell (alloc_blk (heap_alloc_last w1 (.cells #[Value.string title, .string lang, .int .u8 rate, .bool drop, .int .i64 last, .slice ra regs.length rc, .slice ea evs.length ec, .slice ca cms.length cc, Value.string title', .string lang', .int .u8 rate', .bool drop', .int .i64 last', .slice ra' regs'.length rc', .slice ea' evs'.length ec', .slice ca' cms'.length cc'] 28)) _) (by rw [World.size_alloc, World.size_alloc]; omega) 8 (.string title') rfl w2 hb2
  have k1 := blk_cell (alloc_blk (heap_alloc_last w1 (.cells #[Value.string title, .string lang, .int .u8 rate, .bool drop, .int .i64 last, .slice ra regs.length rc, .slice ea evs.length ec, .slice ca cms.length cc, Value.string title', .string lang', .int .u8 rate', .bool drop', .int .i64 last', .slice ra' regs'.length rc', .slice ea' evs'.length ec', .slice ca' cms'.length cc'] 28)) _) (by rw [World.size_alloc, World.size_alloc]; omega) 9 (.string lang') rfl w2 hb2
  have k2 := blk_cell (alloc_blk (heap_alloc_last w1 (.cells #[Value.string title, .string lang, .int .u8 rate, .bool drop, .int .i64 last, .slice ra regs.length rc, .slice ea evs.length ec, .slice ca cms.length cc, Value.string title', .string lang', .int .u8 rate', .bool drop', .int .i64 last', .slice ra' regs'.length rc', .slice ea' evs'.length ec', .slice ca' cms'.length cc'] 28)) _) (by rw [World.size_alloc, World.size_alloc]; omega) 10 (.int .u8 rate') rfl w2 hb2
  have k3 := blk_cell (alloc_blk (heap_alloc_last w1 (.cells #[Value.string title, .string lang, .int .u8 rate, .bool drop, .int .i64 last, .slice ra regs.length rc, .slice ea evs.length ec, .slice ca cms.length cc, Value.string title', .string lang', .int .u8 rate', .bool drop', .int .i64 last', .slice ra' regs'.length rc', .slice ea' evs'.length ec', .slice ca' cms'.length cc'] 28)) _) (by rw [World.size_alloc, World.size_alloc]; omega) 11 (.bool drop') rfl w2 hb2
  have k4 := blk_cell (alloc_blk (heap_alloc_last w1 (.cells #[Value.string title, .string lang, .int .u8 rate, .bool drop, .int .i64 last, .slice ra regs.length rc, .slice ea evs.length ec, .slice ca cms.length cc, Value.string title', .string lang', .int .u8 rate', .bool drop', .int .i64 last', .slice ra' regs'.length rc', .slice ea' evs'.length ec', .slice ca' cms'.length cc'] 28)) _) (by rw [World.size_alloc, World.size_alloc]; omega) 12 (.int .i64 last') rfl w2 hb2
  have k5 := blk_cell (alloc_blk (heap_alloc_last w1 (.cells #[Value.string title, .string lang, .int .u8 rate, .bool drop, .int .i64 last, .slice ra regs.length rc, .slice ea evs.length ec, .slice ca cms.length cc, Value.string title', .string lang', .int .u8 rate', .bool drop', .int .i64 last', .slice ra' regs'.length rc', .slice ea' evs'.length ec', .slice ca' cms'.length cc'] 28)) _) (by rw [World.size_alloc, World.size_alloc]; omega) 13 (.slice ra' regs'.length rc') rfl w2 hb2
  have k6 := blk_cell (alloc_blk (heap_alloc_last w1 (.cells #[Value.string title, .string lang, .int .u8 rate, .bool drop, .int .i64 last, .slice ra regs.length rc, .slice ea evs.length ec, .slice ca cms.length cc, Value.string title', .string lang', .int .u8 rate', .bool drop', .int .i64 last', .slice ra' regs'.length rc', .slice ea' evs'.length ec', .slice ca' cms'.length cc'] 28)) _) (by rw [World.size_alloc, World.size_alloc]; omega) 14 (.slice ea' evs'.length ec') rfl w2 hb2
  have k7 := blk_cell (alloc_blk (heap_alloc_last w1 (.cells #[Value.string title, .string lang, .int .u8 rate, .bool drop, .int .i64 last, .slice ra regs.length rc, .slice ea evs.length ec, .slice ca cms.length cc, Value.string title', .string lang', .int .u8 rate', .bool drop', .int .i64 last', .slice ra' regs'.length rc', .slice ea' evs'.length ec', .slice ca' cms'.length cc'] 28)) _) (by rw [World.size_alloc, World.size_alloc]; omega) 15 (.slice ca' cms'.length cc') rfl w2 hb2
  clear hb2 HD1
  go_wp2_with fail
  have HL1 := Lib.hid (fun o => (hc2.alloc (HLT.out _ hc2) o : Below (w.heap.size + 2) W0 (w2.alloc o)))
  rw [rounds_succ]
  go_wp2_with fail
  refine (HD2.out _ (HB.out _ (HL1.out _))).mono ?_
  rintro e w3 ⟨rfl, hb3⟩
  have hc3 := HT0.out _ _ (HL1.out _) hb3
  clear hb3 HD2 k0 k1 k2 k3 k4 k5 k6 k7
  go_wp2_with fail
  exact HQ.out _ (HB.out _ hc3)


end Go.Proofs.YtdgakmpopgpijaaGreatDoor
