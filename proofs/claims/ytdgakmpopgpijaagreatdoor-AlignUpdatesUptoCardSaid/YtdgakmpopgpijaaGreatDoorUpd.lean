/- The contract of align.updated: a link after the template has changed. -/
import Derived.Test.YtdgakmpopgpijaaGreatDoorFinds
import Derived.Deep.RegionHeld3
set_option linter.unusedVariables false
namespace Go.Proofs.YtdgakmpopgpijaaGreatDoor
open Go.RowKit

theorem keep_blk {W w' : World} {B g : Nat} {o : Obj} (h : W.heap[g]? = some o) (hB : g < B) (hb : Below B W w') : w'.heap[g]? = some o := (hb.block g hB).trans h
theorem alloc_blk {W : World} {g : Nat} {o : Obj} (h : W.heap[g]? = some o) (o' : Obj) : (W.alloc o').heap[g]? = some o :=
  (((Below.refl W.heap.size W).alloc (Nat.le_refl _) o').block g (Array.getElem?_eq_some_iff.1 h).1).trans h
theorem blk_cell {W : World} {B g : Nat} {cs : Array Value} {t : TypeId} (hg : W.heap[g]? = some (.cells cs t)) (hB : g < B) (j : Nat) (v : Value) (hv : cs[j]? = some v) (w' : World) (hb : Below B W w') : w'.cell? ⟨g, j, none⟩ = some v :=
  (cell_of_row w' g j cs t (0, 0) (keep_blk hg hB hb)).trans hv
theorem blk_free {W : World} {B g : Nat} {cs : Array Value} {t : TypeId} (hg : W.heap[g]? = some (.cells cs t)) (hB : g < B) (j : Nat) (w' : World) (hb : Below B W w') : w'.frozen? ⟨g, j, none⟩ = false :=
  frozen_of_row w' g j cs t (keep_blk hg hB hb)

/-- Whether the kind or the text of an event has changed. -/
def evChanged (a b : Ev) : Bool := a.kind != b.kind || !rowsEq a.rows b.rows
def evAt (evs : List Ev) (i : Int) : Ev := (evs[i.toNat]?).getD default
/-- A link after the template has changed, and whether it stays. -/
def updLk (x : Lk) (before after : List Ev) : Lk × Bool :=
  if posOf (hasId x.tpl) after < 0 then (if x.st = 3 then (x, false) else (⟨x.tpl, x.tgt, 4⟩, true))
  else if x.st = 4 then (⟨x.tpl, x.tgt, 2⟩, true)
  else if x.st = 1 ∧ 0 ≤ posOf (hasId x.tpl) before ∧ evChanged (evAt before (posOf (hasId x.tpl) before)) (evAt after (posOf (hasId x.tpl) after)) = true then (⟨x.tpl, x.tgt, 2⟩, true) else (x, true)

theorem upd_cases (x : Lk) (before after : List Ev) (I K : Int) (hI : posOf (hasId x.tpl) before = I) (hK : posOf (hasId x.tpl) after = K) :
    (K < 0 ∧ x.st = 3 ∧ updLk x before after = (x, false)) ∨ (K < 0 ∧ ¬ x.st = 3 ∧ updLk x before after = (⟨x.tpl, x.tgt, 4⟩, true)) ∨ (0 ≤ K ∧ x.st = 4 ∧ updLk x before after = (⟨x.tpl, x.tgt, 2⟩, true)) ∨
    (0 ≤ K ∧ ¬ x.st = 4 ∧ ¬ x.st = 1 ∧ updLk x before after = (x, true)) ∨ (0 ≤ K ∧ x.st = 1 ∧ I < 0 ∧ updLk x before after = (x, true)) ∨
    (∃ (i k : Nat) (a b : Ev), I = i ∧ K = k ∧ before[i]? = some a ∧ after[k]? = some b ∧ x.st = 1 ∧ ((¬ a.kind = b.kind ∧ updLk x before after = (⟨x.tpl, x.tgt, 2⟩, true)) ∨ (a.kind = b.kind ∧ ((rowsEq a.rows b.rows = false ∧ updLk x before after = (⟨x.tpl, x.tgt, 2⟩, true)) ∨ (rowsEq a.rows b.rows = true ∧ updLk x before after = (x, true)))))) := by
  have b1 := posOf_bd (hasId x.tpl) before
  have b2 := posOf_bd (hasId x.tpl) after
  unfold updLk
  rw [hI, hK] at *
  by_cases h1 : K < 0
  · by_cases h2 : x.st = 3
    · left; simp [h1, h2]
    · right; left; simp [h1, h2]
  · by_cases h2 : x.st = 4
    · right; right; left; simp [h1, h2]; omega
    · by_cases h3 : x.st = 1
      · by_cases h4 : I < 0
        · right; right; right; right; left
          rw [if_neg h1, if_neg h2, if_neg (by omega)]
          exact ⟨by omega, h3, h4, rfl⟩
        · right; right; right; right; right
          have hi : I.toNat < before.length := by omega
          have hk : K.toNat < after.length := by omega
          refine ⟨I.toNat, K.toNat, before[I.toNat], after[K.toNat], by omega, by omega, List.getElem?_eq_getElem hi, List.getElem?_eq_getElem hk, h3, ?_⟩
          have ea : evAt before I = before[I.toNat] := by simp [evAt, List.getElem?_eq_getElem hi]
          have eb : evAt after K = after[K.toNat] := by simp [evAt, List.getElem?_eq_getElem hk]
          rw [ea, eb, if_neg h1, if_neg h2]
          unfold evChanged
          by_cases h5 : before[I.toNat].kind = after[K.toNat].kind
          · right
            refine ⟨h5, ?_⟩
            cases h6 : rowsEq before[I.toNat].rows after[K.toNat].rows
            · left; refine ⟨rfl, ?_⟩; rw [if_pos ⟨h3, by omega, by simp⟩]
            · right; refine ⟨rfl, ?_⟩; rw [if_neg (by simp [h5])]
          · left; refine ⟨h5, ?_⟩; rw [if_pos ⟨h3, by omega, by simp [h5]⟩]
      · right; right; right; left
        rw [if_neg h1, if_neg h2, if_neg (by omega)]
        exact ⟨by omega, h2, h3, rfl⟩

def UpdPost (r : Lk × Bool) (w : World) (e : Ending) (w' : World) : Prop := e = .returned (.tuple #[.agg r.1.enc.toArray, .bool r.2]) ∧ Below w.heap.size w w'

set_option maxRecDepth 100000 in
set_option maxHeartbeats 6400000 in
theorem updated_calls (x : Lk) (d d' : Doc) (w : World) (hd : EvsAt w d.ea d.evs) (hd' : EvsAt w d'.ea d'.evs) (hl : d.evs.length ≤ 4000000) (hl' : d'.evs.length ≤ 4000000) (hf : ∀ e ∈ d.evs, e.fits) (hf' : ∀ e ∈ d'.evs, e.fits) :
    Calls Tryz.prog 29 #[.agg x.enc.toArray, .agg d.enc.toArray, .agg d'.enc.toArray] w (UpdPost (updLk x d.evs d'.evs) w) := by
  have hcs := upd_cases x d.evs d'.evs _ _ rfl rfl
  have hF1 := fun w1 h => docFind_calls d x.tpl w1 h hl
  have hF2 := fun w1 h => docFind_calls d' x.tpl w1 h hl'
  unfold UpdPost
  generalize hG : updLk x d.evs d'.evs = G at *
  have b1 := posOf_bd (hasId x.tpl) d.evs
  have b2 := posOf_bd (hasId x.tpl) d'.evs
  generalize posOf (hasId x.tpl) d.evs = I at *
  generalize posOf (hasId x.tpl) d'.evs = K at *
  obtain ⟨tpl, tgt, st⟩ := x
  obtain ⟨title, lang, rate, drop, last, ra, rc, regs, ea, ec, evs, ca, cc, cms⟩ := d
  obtain ⟨title', lang', rate', drop', last', ra', rc', regs', ea', ec', evs', ca', cc', cms'⟩ := d'
  simp only at hcs hd hd' hl hl' hf hf' b1 b2 hF1 hF2
  simp only [Doc.enc, Lk.enc] at hF1 hF2 ⊢
  generalize hxs : #[Value.int .i64 tpl, .int .i64 tgt, .int .u8 st] = xs
  generalize hzs : #[Value.int .i64 0, .int .i64 0, .int .u8 0] = zs
  generalize hds : #[Value.string title, .string lang, .int .u8 rate, .bool drop, .int .i64 last, .slice ra regs.length rc, .slice ea evs.length ec, .slice ca cms.length cc] = ds at *
  generalize hes : #[Value.string title', .string lang', .int .u8 rate', .bool drop', .int .i64 last', .slice ra' regs'.length rc', .slice ea' evs'.length ec', .slice ca' cms'.length cc'] = es at *
  have q0 : ((((w.alloc (.cells xs 49)).alloc (.cells ds 28)).alloc (.cells es 28)).alloc (.cells zs 49)).heap[w.heap.size]? = some (.cells xs 49) := alloc_blk (alloc_blk (alloc_blk (heap_alloc_last _ _) _) _) _
  have q1 : ((((w.alloc (.cells xs 49)).alloc (.cells ds 28)).alloc (.cells es 28)).alloc (.cells zs 49)).heap[w.heap.size + 1]? = some (.cells ds 28) := alloc_blk (alloc_blk (by have := heap_alloc_last (w.alloc (.cells xs 49)) (.cells ds 28); rwa [World.size_alloc] at this) _) _
  have q2 : ((((w.alloc (.cells xs 49)).alloc (.cells ds 28)).alloc (.cells es 28)).alloc (.cells zs 49)).heap[w.heap.size + 2]? = some (.cells es 28) := alloc_blk (by have := heap_alloc_last ((w.alloc (.cells xs 49)).alloc (.cells ds 28)) (.cells es 28); rwa [World.size_alloc, World.size_alloc] at this) _
  have q3 : ((((w.alloc (.cells xs 49)).alloc (.cells ds 28)).alloc (.cells es 28)).alloc (.cells zs 49)).heap[w.heap.size + 3]? = some (.cells zs 49) := by have := heap_alloc_last (((w.alloc (.cells xs 49)).alloc (.cells ds 28)).alloc (.cells es 28)) (.cells zs 49); rwa [World.size_alloc, World.size_alloc, World.size_alloc] at this
  have hB0 : Below w.heap.size w ((((w.alloc (.cells xs 49)).alloc (.cells ds 28)).alloc (.cells es 28)).alloc (.cells zs 49)) := (((((Below.refl _ _).alloc (Nat.le_refl _) _).alloc (by simp) _).alloc (by simp; omega) _).alloc (by simp; omega) _)
  have hsz : ((((w.alloc (.cells xs 49)).alloc (.cells ds 28)).alloc (.cells es 28)).alloc (.cells zs 49)).heap.size = w.heap.size + 4 := by simp
  have hb0 : Below (w.heap.size + 4) ((((w.alloc (.cells xs 49)).alloc (.cells ds 28)).alloc (.cells es 28)).alloc (.cells zs 49)) ((((w.alloc (.cells xs 49)).alloc (.cells ds 28)).alloc (.cells es 28)).alloc (.cells zs 49)) := Below.refl _ _
  generalize hW0 : ((((w.alloc (.cells xs 49)).alloc (.cells ds 28)).alloc (.cells es 28)).alloc (.cells zs 49)) = W0 at *
  have c0 := blk_cell (B := w.heap.size + 4) q0 (by omega) 0 (.int .i64 tpl) (by rw [← hxs]; rfl)
  have c1 := blk_cell (B := w.heap.size + 4) q0 (by omega) 1 (.int .i64 tgt) (by rw [← hxs]; rfl)
  have c2 := blk_cell (B := w.heap.size + 4) q0 (by omega) 2 (.int .u8 st) (by rw [← hxs]; rfl)
  have y0 := blk_free (B := w.heap.size + 4) q0 (by omega) 0
  have y1 := blk_free (B := w.heap.size + 4) q0 (by omega) 1
  have y2 := blk_free (B := w.heap.size + 4) q0 (by omega) 2
  have e0 := blk_cell (B := w.heap.size + 4) q3 (by omega) 0 (.int .i64 0) (by rw [← hzs]; rfl)
  have e1 := blk_cell (B := w.heap.size + 4) q3 (by omega) 1 (.int .i64 0) (by rw [← hzs]; rfl)
  have e2 := blk_cell (B := w.heap.size + 4) q3 (by omega) 2 (.int .u8 0) (by rw [← hzs]; rfl)
  have z0 := blk_free (B := w.heap.size + 4) q3 (by omega) 0
  have z1 := blk_free (B := w.heap.size + 4) q3 (by omega) 1
  have z2 := blk_free (B := w.heap.size + 4) q3 (by omega) 2
  have f0 := blk_cell (B := w.heap.size + 4) q1 (by omega) 0 (.string title) (by rw [← hds]; rfl)
  have f1 := blk_cell (B := w.heap.size + 4) q1 (by omega) 1 (.string lang) (by rw [← hds]; rfl)
  have f2 := blk_cell (B := w.heap.size + 4) q1 (by omega) 2 (.int .u8 rate) (by rw [← hds]; rfl)
  have f3 := blk_cell (B := w.heap.size + 4) q1 (by omega) 3 (.bool drop) (by rw [← hds]; rfl)
  have f4 := blk_cell (B := w.heap.size + 4) q1 (by omega) 4 (.int .i64 last) (by rw [← hds]; rfl)
  have f5 := blk_cell (B := w.heap.size + 4) q1 (by omega) 5 (.slice ra regs.length rc) (by rw [← hds]; rfl)
  have f6 := blk_cell (B := w.heap.size + 4) q1 (by omega) 6 (.slice ea evs.length ec) (by rw [← hds]; rfl)
  have f7 := blk_cell (B := w.heap.size + 4) q1 (by omega) 7 (.slice ca cms.length cc) (by rw [← hds]; rfl)
  have g0 := blk_cell (B := w.heap.size + 4) q2 (by omega) 0 (.string title') (by rw [← hes]; rfl)
  have g1 := blk_cell (B := w.heap.size + 4) q2 (by omega) 1 (.string lang') (by rw [← hes]; rfl)
  have g2 := blk_cell (B := w.heap.size + 4) q2 (by omega) 2 (.int .u8 rate') (by rw [← hes]; rfl)
  have g3 := blk_cell (B := w.heap.size + 4) q2 (by omega) 3 (.bool drop') (by rw [← hes]; rfl)
  have g4 := blk_cell (B := w.heap.size + 4) q2 (by omega) 4 (.int .i64 last') (by rw [← hes]; rfl)
  have g5 := blk_cell (B := w.heap.size + 4) q2 (by omega) 5 (.slice ra' regs'.length rc') (by rw [← hes]; rfl)
  have g6 := blk_cell (B := w.heap.size + 4) q2 (by omega) 6 (.slice ea' evs'.length ec') (by rw [← hes]; rfl)
  have g7 := blk_cell (B := w.heap.size + 4) q2 (by omega) 7 (.slice ca' cms'.length cc') (by rw [← hes]; rfl)
  have HBB := Lib.hid (fun (w1 : World) (h : Below (w.heap.size + 4) W0 w1) => hB0.trans (h.mono (by omega)))
  have HF1 := Lib.hid (fun (w1 : World) (h : Below (w.heap.size + 4) W0 w1) => (hF1 w1 (hd.later (HBB.out _ h))).mono fun e w' ⟨he, hb⟩ => (⟨he, h.trans (hb.mono (by have := h.size; rw [hsz] at this; exact this))⟩ : _ ∧ Below (w.heap.size + 4) W0 w'))
  have HF2 := Lib.hid (fun (w1 : World) (h : Below (w.heap.size + 4) W0 w1) => (hF2 w1 (hd'.later (HBB.out _ h))).mono fun e w' ⟨he, hb⟩ => (⟨he, h.trans (hb.mono (by have := h.size; rw [hsz] at this; exact this))⟩ : _ ∧ Below (w.heap.size + 4) W0 w'))
  have HLT := Lib.hid (fun (w1 : World) (h : Below (w.heap.size + 4) W0 w1) => (show w.heap.size + 4 ≤ w1.heap.size by have := h.size; rw [hsz] at this; exact this))
  have hb0d : Below (w.heap.size + 4) W0 W0.drew := hb0.drew
  have HW0 := Lib.hid hW0
  have HD := Lib.hid hd; have HD' := Lib.hid hd'; have HFE := Lib.hid hf; have HFE' := Lib.hid hf'
  clear hW0 hF1 hF2 q0 q1 q2 q3 hB0 hsz hd hd' hf hf' hG
  subst hzs
  go_enter Tryz.func29, Tryz.ntmps29
  subst hds
  subst hes
  subst hxs
  rcases hcs with ⟨h1, rfl, rfl⟩ | ⟨h1, h2, rfl⟩ | ⟨h1, rfl, rfl⟩ | ⟨h1, h2, h3, rfl⟩ | ⟨h1, rfl, h4, rfl⟩ | ⟨i, k, a, b, rfl, rfl, hi, hk, rfl, hcs⟩
  · have h1d : decide (K < 0) = true := by simp; omega
    go_wp2_with fail
    rw [HW0.out]
    go_region_held3 (fun w' => Below (w.heap.size + 4) W0 w') (first | assumption | exact hb0d) (first | (go_at_call 51; (first | ((with_reducible refine (HF1.out _ ?_).mono ?_); assumption) | ((with_reducible refine (HF2.out _ ?_).mono ?_); assumption)); rintro e w1 ⟨rfl, hb1⟩))
    all_goals
      clear HF1 HF2 f0 f1 f2 f3 f4 f5 f7 g0 g1 g2 g3 g4 g5 g7
      go_wp2_with fail
      exact bodyPost_ret (v := .tuple #[.agg #[.int .i64 tpl, .int .i64 tgt, .int .u8 3], .bool false]) (by simp [results, Tryz.results29, go_sem, *]) rfl ⟨rfl, by repeat (first | exact HBB.out _ (by assumption) | refine Below.setCell ?_ (by dsimp only; omega) _ | refine Below.drew ?_ | refine Below.alloc ?_ (by simp; omega) _)⟩
  · have h1d : decide (K < 0) = true := by simp; omega
    have h2d : (st == 3) = false := by simpa using h2
    clear h2
    go_wp2_with fail
    rw [HW0.out]
    go_region_held3 (fun w' => Below (w.heap.size + 4) W0 w') (first | assumption | exact hb0d) (first | (go_at_call 51; (first | ((with_reducible refine (HF1.out _ ?_).mono ?_); assumption) | ((with_reducible refine (HF2.out _ ?_).mono ?_); assumption)); rintro e w1 ⟨rfl, hb1⟩))
    all_goals
      clear HF1 HF2 f0 f1 f2 f3 f4 f5 f7 g0 g1 g2 g3 g4 g5 g7
      go_wp2_with fail
      exact bodyPost_ret (v := .tuple #[.agg #[.int .i64 tpl, .int .i64 tgt, .int .u8 4], .bool true]) (by simp [results, Tryz.results29, go_sem, *]) rfl ⟨rfl, by repeat (first | exact HBB.out _ (by assumption) | refine Below.setCell ?_ (by dsimp only; omega) _ | refine Below.drew ?_ | refine Below.alloc ?_ (by simp; omega) _)⟩
  · have h1d : decide (K < 0) = false := by simp; omega
    go_wp2_with fail
    rw [HW0.out]
    go_region_held3 (fun w' => Below (w.heap.size + 4) W0 w') (first | assumption | exact hb0d) (first | (go_at_call 51; (first | ((with_reducible refine (HF1.out _ ?_).mono ?_); assumption) | ((with_reducible refine (HF2.out _ ?_).mono ?_); assumption)); rintro e w1 ⟨rfl, hb1⟩))
    all_goals
      clear HF1 HF2 f0 f1 f2 f3 f4 f5 f7 g0 g1 g2 g3 g4 g5 g7
      go_wp2_with fail
      exact bodyPost_ret (v := .tuple #[.agg #[.int .i64 tpl, .int .i64 tgt, .int .u8 2], .bool true]) (by simp [results, Tryz.results29, go_sem, *]) rfl ⟨rfl, by repeat (first | exact HBB.out _ (by assumption) | refine Below.setCell ?_ (by dsimp only; omega) _ | refine Below.drew ?_ | refine Below.alloc ?_ (by simp; omega) _)⟩
  · have h1d : decide (K < 0) = false := by simp; omega
    have h2d : (st == 4) = false := by simpa using h2
    have h3d : (st == 1) = false := by simpa using h3
    clear h2 h3
    go_wp2_with fail
    rw [HW0.out]
    go_region_held3 (fun w' => Below (w.heap.size + 4) W0 w') (first | assumption | exact hb0d) (first | (go_at_call 51; (first | ((with_reducible refine (HF1.out _ ?_).mono ?_); assumption) | ((with_reducible refine (HF2.out _ ?_).mono ?_); assumption)); rintro e w1 ⟨rfl, hb1⟩))
    all_goals
      clear HF1 HF2 f0 f1 f2 f3 f4 f5 f7 g0 g1 g2 g3 g4 g5 g7
      go_wp2_with fail
      exact bodyPost_ret (v := .tuple #[.agg #[.int .i64 tpl, .int .i64 tgt, .int .u8 st], .bool true]) (by simp [results, Tryz.results29, go_sem, *]) rfl ⟨rfl, by repeat (first | exact HBB.out _ (by assumption) | refine Below.setCell ?_ (by dsimp only; omega) _ | refine Below.drew ?_ | refine Below.alloc ?_ (by simp; omega) _)⟩
  · have h1d : decide (K < 0) = false := by simp; omega
    have h4d : decide (0 ≤ I) = false := by simp; omega
    go_wp2_with fail
    rw [HW0.out]
    go_region_held3 (fun w' => Below (w.heap.size + 4) W0 w') (first | assumption | exact hb0d) (first | (go_at_call 51; (first | ((with_reducible refine (HF1.out _ ?_).mono ?_); assumption) | ((with_reducible refine (HF2.out _ ?_).mono ?_); assumption)); rintro e w1 ⟨rfl, hb1⟩))
    all_goals
      clear HF1 HF2 f0 f1 f2 f3 f4 f5 f7 g0 g1 g2 g3 g4 g5 g7
      go_wp2_with fail
      exact bodyPost_ret (v := .tuple #[.agg #[.int .i64 tpl, .int .i64 tgt, .int .u8 1], .bool true]) (by simp [results, Tryz.results29, go_sem, *]) rfl ⟨rfl, by repeat (first | exact HBB.out _ (by assumption) | refine Below.setCell ?_ (by dsimp only; omega) _ | refine Below.drew ?_ | refine Below.alloc ?_ (by simp; omega) _)⟩
  · have h1d : decide ((k : Int) < 0) = false := by simp
    have h4d : decide ((0 : Int) ≤ (i : Int)) = true := by simp
    have hil : i < evs.length := (List.getElem?_eq_some_iff.1 hi).1
    have hkl : k < evs'.length := (List.getElem?_eq_some_iff.1 hk).1
    obtain ⟨bb, off, a', rfl, hbl, ha', hca, hoka⟩ := HD.out.at_ hil
    obtain rfl : a' = a := Option.some.inj (ha'.symm.trans hi)
    obtain ⟨bb', off', b', rfl, hbl', hb', hcb, hokb⟩ := HD'.out.at_ hkl
    obtain rfl : b' = b := Option.some.inj (hb'.symm.trans hk)
    have hfa := HFE.out _ (List.mem_of_getElem? hi)
    have hfb := HFE'.out _ (List.mem_of_getElem? hk)
    have HCA := Lib.hid (fun j v (hv : a'.enc[j]? = some v) w1 (h : Below (w.heap.size + 4) W0 w1) => ((HBB.out _ h).cell (p := ⟨bb, off + i * 7 + j, none⟩) hbl).trans (hca j v hv))
    have HCB := Lib.hid (fun j v (hv : b'.enc[j]? = some v) w1 (h : Below (w.heap.size + 4) W0 w1) => ((HBB.out _ h).cell (p := ⟨bb', off' + k * 7 + j, none⟩) hbl').trans (hcb j v hv))
    have HSR := Lib.hid (fun (w1 : World) (h : Below (w.heap.size + 4) W0 w1) => (sameRows_calls a'.at_ b'.at_ a'.cap b'.cap a'.rows b'.rows w1 (Ev.keeps _ _ _ (HBB.out _ h) hoka) (Ev.keeps _ _ _ (HBB.out _ h) hokb) (fun r hr => (hfa.2.2.2.2.2.2.2.1 r hr).2.1) (fun r hr => (hfb.2.2.2.2.2.2.2.1 r hr).2.1) hfa.2.2.2.2.2.2.2.2).mono fun e w' ⟨he, hb⟩ => (⟨he, h.trans (hb.mono (HLT.out _ h))⟩ : _ ∧ Below (w.heap.size + 4) W0 w'))
    clear hi hk ha' hb' hca hcb hoka hokb hfa hfb
    obtain ⟨xid, xin, xout, xreg, xkind, xsp, xa, xc, xrows⟩ := a'
    obtain ⟨yid, yin, yout, yreg, ykind, ysp, ya, yc, yrows⟩ := b'
    simp only [Ev.enc] at HCA HCB HSR hcs
    generalize rowsEq xrows yrows = RE at *
    rcases hcs with ⟨h5, rfl⟩ | ⟨rfl, ⟨rfl, rfl⟩ | ⟨rfl, rfl⟩⟩
    · have h5d : (xkind != ykind) = true := by simpa using h5
      clear h5
      go_wp2_with fail
      rw [HW0.out]
      go_region_held3 (fun w' => Below (w.heap.size + 4) W0 w') (first | assumption | exact hb0d) (first | (go_at_call 51; (first | ((with_reducible refine (HF1.out _ ?_).mono ?_); assumption) | ((with_reducible refine (HF2.out _ ?_).mono ?_); assumption)); rintro e w1 ⟨rfl, hb1⟩))
      all_goals
        clear HF1 HF2 f0 f1 f2 f3 f4 f5 f7 g0 g1 g2 g3 g4 g5 g7
        have hlt1 := HLT.out _ hb1
        have l0 : w.heap.size < w1.heap.size := by omega
        have l1 : w.heap.size < w1.heap.size + 1 := by omega
        have l2 : w.heap.size + 3 < w1.heap.size := by omega
        have l3 : w.heap.size + 3 < w1.heap.size + 1 := by omega
        have l4 : w.heap.size + 1 + 1 + 1 < w1.heap.size := by omega
        have l5 : w.heap.size + 1 + 1 + 1 < w1.heap.size + 1 := by omega
        have u0 := HCA.out 0 _ rfl; have u1 := HCA.out 1 _ rfl; have u2 := HCA.out 2 _ rfl; have u3 := HCA.out 3 _ rfl; have u4 := HCA.out 4 _ rfl; have u5 := HCA.out 5 _ rfl; have u6 := HCA.out 6 _ rfl
        have v0 := HCB.out 0 _ rfl; have v1 := HCB.out 1 _ rfl; have v2 := HCB.out 2 _ rfl; have v3 := HCB.out 3 _ rfl; have v4 := HCB.out 4 _ rfl; have v5 := HCB.out 5 _ rfl; have v6 := HCB.out 6 _ rfl
        simp only [Nat.add_zero] at u0 v0
        clear HCA HCB
        go_wp2_with fail
        go_region_held3 (fun w' => Below (w.heap.size + 4) W0 w') (first | assumption | exact Below.drew (by assumption) | exact Below.alloc (Below.drew (by assumption)) (by simp; omega) _ | exact Below.alloc (Below.alloc (Below.drew (by assumption)) (by simp; omega) _) (by simp; omega) _) (fail)
        all_goals
          go_wp2_with fail
          exact bodyPost_ret (v := .tuple #[.agg #[.int .i64 tpl, .int .i64 tgt, .int .u8 2], .bool true]) (by simp [results, Tryz.results29, go_sem, *]) rfl ⟨rfl, by repeat (first | exact HBB.out _ (by assumption) | refine Below.setCell ?_ (by dsimp only; omega) _ | refine Below.drew ?_ | refine Below.alloc ?_ (by simp; omega) _)⟩
    · have h5d : (xkind != xkind) = false := by simp
      go_wp2_with fail
      rw [HW0.out]
      go_region_held3 (fun w' => Below (w.heap.size + 4) W0 w') (first | assumption | exact hb0d) (first | (go_at_call 51; (first | ((with_reducible refine (HF1.out _ ?_).mono ?_); assumption) | ((with_reducible refine (HF2.out _ ?_).mono ?_); assumption)); rintro e w1 ⟨rfl, hb1⟩))
      all_goals
        clear HF1 HF2 f0 f1 f2 f3 f4 f5 f7 g0 g1 g2 g3 g4 g5 g7
        have hlt1 := HLT.out _ hb1
        have l0 : w.heap.size < w1.heap.size := by omega
        have l1 : w.heap.size < w1.heap.size + 1 := by omega
        have l2 : w.heap.size + 3 < w1.heap.size := by omega
        have l3 : w.heap.size + 3 < w1.heap.size + 1 := by omega
        have l4 : w.heap.size + 1 + 1 + 1 < w1.heap.size := by omega
        have l5 : w.heap.size + 1 + 1 + 1 < w1.heap.size + 1 := by omega
        have u0 := HCA.out 0 _ rfl; have u1 := HCA.out 1 _ rfl; have u2 := HCA.out 2 _ rfl; have u3 := HCA.out 3 _ rfl; have u4 := HCA.out 4 _ rfl; have u5 := HCA.out 5 _ rfl; have u6 := HCA.out 6 _ rfl
        have v0 := HCB.out 0 _ rfl; have v1 := HCB.out 1 _ rfl; have v2 := HCB.out 2 _ rfl; have v3 := HCB.out 3 _ rfl; have v4 := HCB.out 4 _ rfl; have v5 := HCB.out 5 _ rfl; have v6 := HCB.out 6 _ rfl
        simp only [Nat.add_zero] at u0 v0
        clear HCA HCB
        go_wp2_with fail
        go_region_held3 (fun w' => Below (w.heap.size + 4) W0 w') (first | assumption | exact Below.drew (by assumption) | exact Below.alloc (Below.drew (by assumption)) (by simp; omega) _ | exact Below.alloc (Below.alloc (Below.drew (by assumption)) (by simp; omega) _) (by simp; omega) _) (fail)
        all_goals
          go_wp2_with (go_at_call 52; refine (HSR.out _ (by assumption)).mono ?_; rintro e w5 ⟨rfl, hb5⟩)
          exact bodyPost_ret (v := .tuple #[.agg #[.int .i64 tpl, .int .i64 tgt, .int .u8 2], .bool true]) (by simp [results, Tryz.results29, go_sem, *]) rfl ⟨rfl, by repeat (first | exact HBB.out _ (by assumption) | refine Below.setCell ?_ (by dsimp only; omega) _ | refine Below.drew ?_ | refine Below.alloc ?_ (by simp; omega) _)⟩
    · have h5d : (xkind != xkind) = false := by simp
      go_wp2_with fail
      rw [HW0.out]
      go_region_held3 (fun w' => Below (w.heap.size + 4) W0 w') (first | assumption | exact hb0d) (first | (go_at_call 51; (first | ((with_reducible refine (HF1.out _ ?_).mono ?_); assumption) | ((with_reducible refine (HF2.out _ ?_).mono ?_); assumption)); rintro e w1 ⟨rfl, hb1⟩))
      all_goals
        clear HF1 HF2 f0 f1 f2 f3 f4 f5 f7 g0 g1 g2 g3 g4 g5 g7
        have hlt1 := HLT.out _ hb1
        have l0 : w.heap.size < w1.heap.size := by omega
        have l1 : w.heap.size < w1.heap.size + 1 := by omega
        have l2 : w.heap.size + 3 < w1.heap.size := by omega
        have l3 : w.heap.size + 3 < w1.heap.size + 1 := by omega
        have l4 : w.heap.size + 1 + 1 + 1 < w1.heap.size := by omega
        have l5 : w.heap.size + 1 + 1 + 1 < w1.heap.size + 1 := by omega
        have u0 := HCA.out 0 _ rfl; have u1 := HCA.out 1 _ rfl; have u2 := HCA.out 2 _ rfl; have u3 := HCA.out 3 _ rfl; have u4 := HCA.out 4 _ rfl; have u5 := HCA.out 5 _ rfl; have u6 := HCA.out 6 _ rfl
        have v0 := HCB.out 0 _ rfl; have v1 := HCB.out 1 _ rfl; have v2 := HCB.out 2 _ rfl; have v3 := HCB.out 3 _ rfl; have v4 := HCB.out 4 _ rfl; have v5 := HCB.out 5 _ rfl; have v6 := HCB.out 6 _ rfl
        simp only [Nat.add_zero] at u0 v0
        clear HCA HCB
        go_wp2_with fail
        go_region_held3 (fun w' => Below (w.heap.size + 4) W0 w') (first | assumption | exact Below.drew (by assumption) | exact Below.alloc (Below.drew (by assumption)) (by simp; omega) _ | exact Below.alloc (Below.alloc (Below.drew (by assumption)) (by simp; omega) _) (by simp; omega) _) (fail)
        all_goals
          go_wp2_with (go_at_call 52; refine (HSR.out _ (by assumption)).mono ?_; rintro e w5 ⟨rfl, hb5⟩)
          exact bodyPost_ret (v := .tuple #[.agg #[.int .i64 tpl, .int .i64 tgt, .int .u8 1], .bool true]) (by simp [results, Tryz.results29, go_sem, *]) rfl ⟨rfl, by repeat (first | exact HBB.out _ (by assumption) | refine Below.setCell ?_ (by dsimp only; omega) _ | refine Below.drew ?_ | refine Below.alloc ?_ (by simp; omega) _)⟩

end Go.Proofs.YtdgakmpopgpijaaGreatDoor
