/- The contract of align.Update, where nothing is refused. -/
import Derived.Test.YtdgakmpopgpijaaGreatDoorUpdate
set_option linter.unusedVariables false
namespace Go.Proofs.YtdgakmpopgpijaaGreatDoor
open Go.RowKit

set_option maxRecDepth 100000 in
set_option maxHeartbeats 2400000 in
theorem update_good (a : Option Addr) (cap : Nat) (xs : List Lk) (d d' : Doc) (w : World) (hE : Env w) (hx : LksAt w a xs) (hfx : ∀ x ∈ xs, x.fits) (hlx : xs.length ≤ 4000000) (hd : d.lies w) (hd' : d'.lies w) (hf : d.fits) (hf' : d'.fits) (h1 : formB xs = true) (h2 : docErr d = 0) (h3 : docErr d' = 0) (h4 : belongB xs d.evs = true) (hR : ∀ x ∈ updAll xs d.evs d'.evs, InR x) :
    Calls Tryz.prog 8 #[.slice a xs.length cap, .agg d.enc.toArray, .agg d'.enc.toArray] w (UpdatePost xs d d' w) := by
  have hIF := fun (w1 : World) (h : Below w.heap.size w w1) => inForm_calls a cap xs w1 (hx.later h) hfx hlx
  have hD1 := fun (w1 : World) (h : Below w.heap.size w w1) => docCheck_calls d w1 (hE.below h (Nat.le_refl _)) (Doc.later hd h) hf
  have hD2 := fun (w1 : World) (h : Below w.heap.size w w1) => docCheck_calls d' w1 (hE.below h (Nat.le_refl _)) (Doc.later hd' h) hf'
  have hBE := fun (w1 : World) (h : Below w.heap.size w w1) => belong_calls a cap xs d w1 (hx.later h) hlx (hd.2.1.later h) hf.2.2.2.2.2.2.2.2.1
  have hUP := fun (x : Lk) (w1 : World) (h : Below w.heap.size w w1) => (updated_calls x d d' w1 (hd.2.1.later h) (hd'.2.1.later h) hf.2.2.2.2.2.2.2.2.1 hf'.2.2.2.2.2.2.2.2.1 hf.2.2.2.2.2.2.2.1 hf'.2.2.2.2.2.2.2.1).mono fun e w' h => (h : e = .returned (.tuple #[.agg (updLk x d.evs d'.evs).1.enc.toArray, .bool (updLk x d.evs d'.evs).2]) ∧ Below w1.heap.size w1 w')
  have hFI := fun (id : Int) (w1 : World) (h : Below w.heap.size w w1) => linkFind_calls a cap xs id w1 (hx.later h) hlx
  have HX := Lib.hid hx
  have HEV := Lib.hid hd'.2.1
  have hle' := hf'.2.2.2.2.2.2.2.2.1
  rw [h1] at hIF
  rw [h2] at hD1
  rw [h3] at hD2
  rw [h4] at hBE
  have hE0 : updErr xs d d' = 0 := by unfold updErr; rw [if_neg (by rw [h1]; decide), if_neg (by rw [h2]; decide), if_neg (by rw [h3]; decide), if_neg (by rw [h4]; decide)]
  have HQ := Lib.hid (fun (ys : List Lk) (a' : Option Addr) (cap' : Nat) (w' : World) (hy : LksAt w' a' ys) (hp : ys.Perm (updAll xs d.evs d'.evs)) (hs : ys.Pairwise (fun x y => x.tpl ≤ y.tpl)) (hb : Below w.heap.size w w') => (show UpdatePost xs d d' w (.returned (.tuple #[.slice a' ys.length cap', .int .i64 0])) w' from ⟨⟨_, by rw [hE0], fun h => absurd hE0 h, fun _ => ⟨ys, a', cap', rfl, hy, hp, hs⟩⟩, hb⟩))
  have HRR := Lib.hid hR
  clear hE0 h1 h2 h3 h4 hR
  have HIF := Lib.hid hIF; have HD1 := Lib.hid hD1; have HD2 := Lib.hid hD2; have HBE := Lib.hid hBE; have HUP := Lib.hid hUP; have HFI := Lib.hid hFI
  clear hIF hD1 hD2 hBE hUP hFI hd hd' hf hf' hfx hE hx
  generalize UpdatePost xs d d' w = Q at *
  obtain ⟨title, lang, rate, drop, last, ra, rc, regs, ea, ec, evs, ca, cc, cms⟩ := d
  obtain ⟨title', lang', rate', drop', last', ra', rc', regs', ea', ec', evs', ca', cc', cms'⟩ := d'
  simp only at HEV hle' HUP
  simp only [Doc.enc] at HD1 HD2 HBE HUP ⊢
  generalize hds : #[Value.string title, .string lang, .int .u8 rate, .bool drop, .int .i64 last, .slice ra regs.length rc, .slice ea evs.length ec, .slice ca cms.length cc] = ds at *
  generalize hes : #[Value.string title', .string lang', .int .u8 rate', .bool drop', .int .i64 last', .slice ra' regs'.length rc', .slice ea' evs'.length ec', .slice ca' cms'.length cc'] = es at *
  have f0 := box2_fst w ds es 28 28 0 (.string title) (by rw [← hds]; rfl)
  have f1 := box2_fst w ds es 28 28 1 (.string lang) (by rw [← hds]; rfl)
  have f2 := box2_fst w ds es 28 28 2 (.int .u8 rate) (by rw [← hds]; rfl)
  have f3 := box2_fst w ds es 28 28 3 (.bool drop) (by rw [← hds]; rfl)
  have f4 := box2_fst w ds es 28 28 4 (.int .i64 last) (by rw [← hds]; rfl)
  have f5 := box2_fst w ds es 28 28 5 (.slice ra regs.length rc) (by rw [← hds]; rfl)
  have f6 := box2_fst w ds es 28 28 6 (.slice ea evs.length ec) (by rw [← hds]; rfl)
  have f7 := box2_fst w ds es 28 28 7 (.slice ca cms.length cc) (by rw [← hds]; rfl)
  have g0 := box2_snd w ds es 28 28 0 (.string title') (by rw [← hes]; rfl)
  have g1 := box2_snd w ds es 28 28 1 (.string lang') (by rw [← hes]; rfl)
  have g2 := box2_snd w ds es 28 28 2 (.int .u8 rate') (by rw [← hes]; rfl)
  have g3 := box2_snd w ds es 28 28 3 (.bool drop') (by rw [← hes]; rfl)
  have g4 := box2_snd w ds es 28 28 4 (.int .i64 last') (by rw [← hes]; rfl)
  have g5 := box2_snd w ds es 28 28 5 (.slice ra' regs'.length rc') (by rw [← hes]; rfl)
  have g6 := box2_snd w ds es 28 28 6 (.slice ea' evs'.length ec') (by rw [← hes]; rfl)
  have g7 := box2_snd w ds es 28 28 7 (.slice ca' cms'.length cc') (by rw [← hes]; rfl)
  have HB := Lib.hid (fun (w1 : World) (h : Below (w.heap.size + 2) ((w.alloc (.cells ds 28)).alloc (.cells es 28)) w1) => box2_below h)
  have hb0 : Below (w.heap.size + 2) ((w.alloc (.cells ds 28)).alloc (.cells es 28)) ((w.alloc (.cells ds 28)).alloc (.cells es 28)) := Below.refl _ _
  have hsz : ((w.alloc (.cells ds 28)).alloc (.cells es 28)).heap.size = w.heap.size + 2 := by simp
  generalize hW0 : (w.alloc (.cells ds 28)).alloc (.cells es 28) = W0 at *
  have HW0 := Lib.hid hW0
  have HLT := Lib.hid (fun (w1 : World) (h : Below (w.heap.size + 2) W0 w1) => (show w.heap.size + 2 ≤ w1.heap.size by have := h.size; rw [hsz] at this; exact this))
  have HT0 := Lib.hid (fun (w2 w3 : World) (h : Below (w.heap.size + 2) W0 w2) (h3 : Below w2.heap.size w2 w3) => h.trans (h3.mono (HLT.out _ h)))
  clear hW0 hsz
  go_enter Tryz.func8, Tryz.ntmps8
  subst hds
  subst hes
  go_wp2_with fail
  rw [HW0.out]
  refine (HIF.out _ (HB.out _ hb0)).mono ?_
  rintro e w1 ⟨rfl, hb1⟩
  have hc1 := HT0.out _ _ hb0 hb1
  clear hb1 HIF
  go_wp2_with fail
  have HL2 := Lib.hid (fun o o' => ((hc1.alloc (HLT.out _ hc1) o).alloc (by have := HLT.out _ hc1; simp; omega) o' : Below (w.heap.size + 2) W0 ((w1.alloc o).alloc o')))
  refine wp_loop_rounds 3 ?_
  rw [rounds_succ]
  go_wp2_with fail
  refine (HD1.out _ (HB.out _ (HL2.out _ _))).mono ?_
  rintro e w2 ⟨rfl, hb2⟩
  have hc2 := HT0.out _ _ (HL2.out _ _) hb2
  have k0 := blk_cell (alloc_blk (heap_alloc_last w1 (.cells #[Value.string title, .string lang, .int .u8 rate, .bool drop, .int .i64 last, .slice ra regs.length rc, .slice ea evs.length ec, .slice ca cms.length cc, Value.string title', .string lang', .int .u8 rate', .bool drop', .int .i64 last', .slice ra' regs'.length rc', .slice ea' evs'.length ec', .slice ca' cms'.length cc'] 28)) _) (by rw [World.size_alloc, World.size_alloc]; omega) 8 (.string title') rfl w2 hb2
  have k1 := blk_cell (alloc_blk (heap_alloc_last w1 (.cells #[Value.string title, .string lang, .int .u8 rate, .bool drop, .int .i64 last, .slice ra regs.length rc, .slice ea evs.length ec, .slice ca cms.length cc, Value.string title', .string lang', .int .u8 rate', .bool drop', .int .i64 last', .slice ra' regs'.length rc', .slice ea' evs'.length ec', .slice ca' cms'.length cc'] 28)) _) (by rw [World.size_alloc, World.size_alloc]; omega) 9 (.string lang') rfl w2 hb2
  have k2 := blk_cell (alloc_blk (heap_alloc_last w1 (.cells #[Value.string title, .string lang, .int .u8 rate, .bool drop, .int .i64 last, .slice ra regs.length rc, .slice ea evs.length ec, .slice ca cms.length cc, Value.string title', .string lang', .int .u8 rate', .bool drop', .int .i64 last', .slice ra' regs'.length rc', .slice ea' evs'.length ec', .slice ca' cms'.length cc'] 28)) _) (by rw [World.size_alloc, World.size_alloc]; omega) 10 (.int .u8 rate') rfl w2 hb2
  have k3 := blk_cell (alloc_blk (heap_alloc_last w1 (.cells #[Value.string title, .string lang, .int .u8 rate, .bool drop, .int .i64 last, .slice ra regs.length rc, .slice ea evs.length ec, .slice ca cms.length cc, Value.string title', .string lang', .int .u8 rate', .bool drop', .int .i64 last', .slice ra' regs'.length rc', .slice ea' evs'.length ec', .slice ca' cms'.length cc'] 28)) _) (by rw [World.size_alloc, World.size_alloc]; omega) 11 (.bool drop') rfl w2 hb2
  have k4 := blk_cell (alloc_blk (heap_alloc_last w1 (.cells #[Value.string title, .string lang, .int .u8 rate, .bool drop, .int .i64 last, .slice ra regs.length rc, .slice ea evs.length ec, .slice ca cms.length cc, Value.string title', .string lang', .int .u8 rate', .bool drop', .int .i64 last', .slice ra' regs'.length rc', .slice ea' evs'.length ec', .slice ca' cms'.length cc'] 28)) _) (by rw [World.size_alloc, World.size_alloc]; omega) 12 (.int .i64 last') rfl w2 hb2
  have k5 := blk_cell (alloc_blk (heap_alloc_last w1 (.cells #[Value.string title, .string lang, .int .u8 rate, .bool drop, .int .i64 last, .slice ra regs.length rc, .slice ea evs.length ec, .slice ca cms.length cc, Value.string title', .string lang', .int .u8 rate', .bool drop', .int .i64 last', .slice ra' regs'.length rc', .slice ea' evs'.length ec', .slice ca' cms'.length cc'] 28)) _) (by rw [World.size_alloc, World.size_alloc]; omega) 13 (.slice ra' regs'.length rc') rfl w2 hb2
  have k6 := blk_cell (alloc_blk (heap_alloc_last w1 (.cells #[Value.string title, .string lang, .int .u8 rate, .bool drop, .int .i64 last, .slice ra regs.length rc, .slice ea evs.length ec, .slice ca cms.length cc, Value.string title', .string lang', .int .u8 rate', .bool drop', .int .i64 last', .slice ra' regs'.length rc', .slice ea' evs'.length ec', .slice ca' cms'.length cc'] 28)) _) (by rw [World.size_alloc, World.size_alloc]; omega) 14 (.slice ea' evs'.length ec') rfl w2 hb2
  have k7 := blk_cell (alloc_blk (heap_alloc_last w1 (.cells #[Value.string title, .string lang, .int .u8 rate, .bool drop, .int .i64 last, .slice ra regs.length rc, .slice ea evs.length ec, .slice ca cms.length cc, Value.string title', .string lang', .int .u8 rate', .bool drop', .int .i64 last', .slice ra' regs'.length rc', .slice ea' evs'.length ec', .slice ca' cms'.length cc'] 28)) _) (by rw [World.size_alloc, World.size_alloc]; omega) 15 (.slice ca' cms'.length cc') rfl w2 hb2
  clear hb2 HD1
  go_wp2_with fail
  have HL1 := Lib.hid (fun o => (hc2.alloc (HLT.out _ hc2) o : Below (w.heap.size + 2) W0 (w2.alloc o)))
  rw [rounds_succ]
  go_wp2_with fail
  refine (HD2.out _ (HB.out _ (HL1.out _))).mono ?_
  rintro e w3 ⟨rfl, hb3⟩
  have hc3 := HT0.out _ _ (HL1.out _) hb3
  clear hb3 HD2 k0 k1 k2 k3 k4 k5 k6 k7
  go_wp2_with fail
  rw [rounds_succ]
  go_wp2_with fail
  refine (HBE.out _ (HB.out _ hc3)).mono ?_
  rintro e w4 ⟨rfl, hb4⟩
  have hc4 := HT0.out _ _ hc3 hb4
  clear hb4
  go_wp2_with fail
  clear HL2 HL1 hc1 hc2 HBE
  obtain ⟨j0, hj, hy0, hy1, hy2⟩ := info_parts Tryz.info49
  have JI := Lib.hid hj; have J0 := Lib.hid hy0; have J1 := Lib.hid hy1; have J2 := Lib.hid hy2
  clear hj hy0 hy1 hy2 hc3
  go_loopw [11, 41] (fun v i wr => ∃ k : Nat, k ≤ xs.length ∧ i = .int .i64 k ∧ OwnLk (updOne evs evs') [] xs (w.heap.size + 2) W0 k v wr) (fun _ i _ => xs.length - (intOf i).toNat)
  case atStart => exact ⟨0, by omega, rfl, World.ownsRow_nil _ _ _ _, hc4⟩
  case round =>
    obtain ⟨k, hk, rfl, hown, hb⟩ := hrel
    rw [List.nil_append] at hown
    have hlk := upTo_len (updOne evs evs') (updOne_one evs evs') xs k
    have hbs := HLT.out _ hb
    by_cases hlt : k < xs.length
    · obtain ⟨b, off, x, rfl, hbl, hxk, hc, _⟩ := (HX.out.later (HB.out _ hb)).at_ hlt
      have HAT := Lib.hid (upTo_at (updOne evs evs') xs k x hxk)
      have HBA := Lib.hid (fun (o : Obj) => hb.alloc hbs o)
      have HLT1 := Lib.hid (fun j hj => (hown.lt j hj).1)
      have HOW := Lib.hid hown
      have HU := Lib.hid (fun o => HUP.out x (wr.alloc o) (HB.out _ (HBA.out o)))
      obtain ⟨tpl, tgt, st⟩ := x
      simp only [updOne] at HAT
      generalize updLk ⟨tpl, tgt, st⟩ evs evs' = U at *
      obtain ⟨⟨utpl, utgt, ust⟩, ub⟩ := U
      simp only [Lk.enc] at HU
      have d0 := hc 0 _ rfl; have d1 := hc 1 _ rfl; have d2 := hc 2 _ rfl
      simp only [Nat.add_zero] at d0 d1 d2
      have hba := HBA.out
      have HO5 := Lib.hid (fun (o : Obj) (w5 : World) (h : Below (wr.alloc o).heap.size (wr.alloc o) w5) => own_below (HOW.out.alloc o) h (Nat.le_refl _))
      clear hc hxk hown
      cases ub
      · simp only [Bool.false_eq_true, if_false, List.append_nil] at HAT
        go_wp2_with (go_at_call 29; refine (HU.out _).mono ?_; rintro e w5 ⟨rfl, hb5⟩; simp only [Lk.enc]; have hc5 := HT0.out _ _ (hba _) hb5; have ho5 := Lib.hid (HO5.out _ _ hb5); have hz5 := HLT.out _ hc5; clear hb5)
        go_roundw
        case rel => exact ⟨k + 1, by omega, by go_num, by rw [List.nil_append, HAT.out]; exact ho5.out.alloc _, hc5.alloc hz5 _⟩
        case measure => simp [intOf]; omega
      · simp only [if_true] at HAT
        go_wp2_with (first
          | (go_at_call 29; refine (HU.out _).mono ?_; rintro e w5 ⟨rfl, hb5⟩; simp only [Lk.enc]; have hc5 := HT0.out _ _ (hba _) hb5; have ho5 := Lib.hid (HO5.out _ _ hb5); have hz5 := HLT.out _ hc5; clear hb5)
          | (at_builtin; refine wpList_append_new _ _ rfl (.tmp 53) (.tmp 55) 22 rfl (w.heap.size + 2) 49 j0 _ 3 24 Tryz.underlying22 JI.out J0.out J1.out J2.out rfl (by decide) _ _ _ rfl (ho5.out.alloc _) _ rfl (by simp) rfl ?h1 ?h63 ?hb ?hbase ?_))
        case h1 => first | rfl | exact ⟨rfl, rfl, rfl⟩ | (intro u hu; simp at hu; rcases hu with rfl | rfl | rfl <;> rfl)
        case h63 => unfold maxLen; omega
        case hb => omega
        case hbase => simp; omega
        intro v' w6 hown' hgrow
        have R : OwnLk (updOne evs evs') [] xs (w.heap.size + 2) W0 (k + 1) v' w6 := by
          refine ⟨?_, ((hc5.alloc hz5 _).alloc (by simp; omega) _).grown hgrow (by simp; omega) (fun j hj => HLT1.out j hj)⟩
          rw [List.nil_append, HAT.out]
          simpa [Lk.enc] using hown'
        clear hown' hgrow ho5
        go_wp2_with fail
        go_roundw
        case rel => exact ⟨k + 1, by omega, by go_num, R⟩
        case measure => simp [intOf]; omega
    · obtain rfl : k = xs.length := by omega
      rw [upTo_all] at hown hlk
      have h00 : OwnLk (newOne xs) (xs.flatMap (updOne evs evs')) evs' (w.heap.size + 2) W0 0 _ wr := ⟨by rw [upTo, List.append_nil]; exact hown, hb⟩
      have H00 := Lib.hid h00
      have HLU := Lib.hid hlk
      clear hown h00 hlk HUP hc4
      go_wp2_with fail
      obtain ⟨wo, rfl⟩ : ∃ wo : World, wo = wr := ⟨_, rfl⟩
      go_loopw [11, 61] (fun v i wr => ∃ k : Nat, k ≤ evs'.length ∧ i = .int .i64 k ∧ OwnLk (newOne xs) (xs.flatMap (updOne evs evs')) evs' (w.heap.size + 2) W0 k v wr) (fun _ i _ => evs'.length - (intOf i).toNat)
      case atStart => exact ⟨0, by omega, rfl, H00.out⟩
      case round =>
        obtain ⟨k, hk', rfl, hown, hb'⟩ := hrel
        have hlk := upTo_len (newOne xs) (newOne_one xs) evs' k
        have hlu := HLU.out
        have hlen : (xs.flatMap (updOne evs evs') ++ upTo (newOne xs) evs' k).length ≤ 8000000 := by rw [List.length_append]; omega
        have hbs' := HLT.out _ hb'
        clear H00 hb hbs
        by_cases hlt : k < evs'.length
        · obtain ⟨b, off, x, rfl, hbl, hxk, hc, _⟩ := (HEV.out.later (HB.out _ hb')).at_ hlt
          have HAT := Lib.hid (upTo_at (newOne xs) evs' k x hxk)
          have hba : ∀ o : Obj, Below (w.heap.size + 2) W0 (wr.alloc o) := fun o => hb'.alloc hbs' o
          have HLT1 := Lib.hid (fun j hj => (hown.lt j hj).1)
          have HO5 := Lib.hid (fun (o : Obj) (w5 : World) (h : Below (wr.alloc o).heap.size (wr.alloc o) w5) => own_below (hown.alloc o) h (Nat.le_refl _))
          have HF := Lib.hid (fun o => HFI.out x.id (wr.alloc o) (HB.out _ (hba o)))
          obtain ⟨xid, xin, xout, xreg, xkind, xsp, xa, xc, xrows⟩ := x
          simp only [newOne] at HAT HF
          generalize posOf (hasTpl xid) xs = N at *
          have d0 := hc 0 _ rfl; have d1 := hc 1 _ rfl; have d2 := hc 2 _ rfl; have d3 := hc 3 _ rfl; have d4 := hc 4 _ rfl; have d5 := hc 5 _ rfl; have d6 := hc 6 _ rfl
          simp only [Nat.add_zero] at d0 d1 d2 d3 d4 d5 d6
          clear hc hxk hown
          by_cases hN : N < 0
          · rw [if_pos hN] at HAT
            go_wp2_with (first
              | (go_at_call 14; refine (HF.out _).mono ?_; rintro e w5 ⟨rfl, hb5⟩; have hc5 := HT0.out _ _ (hba _) hb5; have ho5 := Lib.hid (HO5.out _ _ hb5); have hz5 := HLT.out _ hc5; have e0 := (hb5.cell (p := ⟨wr.heap.size, 0, none⟩) (by simp)); simp at e0; clear hb5)
              | (at_builtin; refine wpList_append_new _ _ rfl (.tmp 70) (.tmp 74) 22 rfl (w.heap.size + 2) 49 j0 _ 3 24 Tryz.underlying22 JI.out J0.out J1.out J2.out rfl (by decide) _ _ _ rfl ho5.out _ rfl (by simp) rfl ?h1 ?h63 ?hb ?hbase ?_))
            case h1 => first | rfl | exact ⟨rfl, rfl, rfl⟩ | (intro u hu; simp at hu; rcases hu with rfl | rfl | rfl <;> rfl)
            case h63 => unfold maxLen; omega
            case hb => omega
            case hbase => omega
            intro v' w6 hown' hgrow
            have R : OwnLk (newOne xs) (xs.flatMap (updOne evs evs')) evs' (w.heap.size + 2) W0 (k + 1) v' w6 := by
              refine ⟨?_, (hc5.alloc hz5 _).grown hgrow (by simp; omega) (fun j hj => HLT1.out j hj)⟩
              rw [HAT.out, ← List.append_assoc]
              simpa [Lk.enc, Nat.add_assoc] using hown'
            clear hown' hgrow ho5
            go_wp2_with fail
            go_roundw
            case rel => exact ⟨k + 1, by omega, by go_num, R⟩
            case measure => simp [intOf]; omega
          · rw [if_neg hN, List.append_nil] at HAT
            have hN' : 0 ≤ N := by omega
            go_wp2_with (go_at_call 14; refine (HF.out _).mono ?_; rintro e w5 ⟨rfl, hb5⟩; have hc5 := HT0.out _ _ (hba _) hb5; have ho5 := Lib.hid (HO5.out _ _ hb5); clear hb5)
            go_roundw
            case rel => exact ⟨k + 1, by omega, by go_num, by rw [HAT.out]; exact ho5.out, hc5⟩
            case measure => simp [intOf]; omega
        · obtain rfl : k = evs'.length := by omega
          rw [upTo_all] at hown hlen
          have hown2 : wr.ownsRow (w.heap.size + 2) 49 3 _ (updAll xs evs evs').length ((updAll xs evs evs').flatMap Lk.enc) := hown
          have hlen2 : (updAll xs evs evs').length ≤ 8000000 := hlen
          clear hown hlen hlk hlu HLU
          generalize updAll xs evs evs' = L at *
          obtain ⟨a1, c1, hv1, _⟩ := Lks.of_owns hown2
          subst hv1
          have HS := Lib.hid (sortLk_calls (w.heap.size + 2) _ _ wr hown2 HRR.out hlen2 hbs')
          clear hown2
          go_wp2_with fail
          refine HS.out.mono ?_
          rintro e w6 ⟨rfl, ⟨ys, a2, c2, hv2, hy, hp, hs⟩, hb6⟩
          obtain ⟨rfl, rfl⟩ : a1 = a2 ∧ c1 = c2 := by simpa using hv2
          have hfin := HQ.out ys a1 c1 w6 hy hp hs (HB.out _ (hb'.trans hb6))
          rw [hp.length_eq] at hfin
          have HFIN := Lib.hid hfin
          clear hfin hv2 hy hp hs hb6
          go_wp2_with fail
          exact HFIN.out

end Go.Proofs.YtdgakmpopgpijaaGreatDoor
