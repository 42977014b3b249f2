/- The contract of align.Check, where the links are in form and the documents have no error. -/
import Derived.Test.YtdgakmpopgpijaaGreatDoorCheck
set_option linter.unusedVariables false
namespace Go.Proofs.YtdgakmpopgpijaaGreatDoor
open Go.RowKit

theorem box_at {w : World} {cs : Array Value} {t : TypeId} {w' : World} (hb : Below (w.heap.size + 1) (w.alloc (.cells cs t)) w') (j : Nat) (v : Value) (h : cs[j]? = some v) : w'.cell? ⟨w.heap.size, j, none⟩ = some v := box_cell w cs t j v h w' hb
def AimRel (xs : List Lk) (B : Nat) (W0 : World) (mb k : Nat) (wr : World) : Prop := BMap wr mb k (aimAt xs k) ∧ Below B W0 wr

set_option maxRecDepth 100000 in
set_option maxHeartbeats 3200000 in
theorem check_good (a : Option Addr) (cap : Nat) (xs : List Lk) (d d' : Doc) (w : World) (hE : Env w) (hx : LksAt w a xs) (hfx : ∀ x ∈ xs, x.fits) (hlx : xs.length ≤ 4000000) (hd : d.lies w) (hd' : d'.lies w) (hf : d.fits) (hf' : d'.fits) (h1 : formB xs = true) (h2 : docErr d = 0) (h3 : docErr d' = 0) :
    Calls Tryz.prog 11 #[.slice a xs.length cap, .agg d.enc.toArray, .agg d'.enc.toArray] w fun e w' => e = .returned (.int .i64 (chkErr xs d d')) ∧ Below w.heap.size w w' := by
  have hIF := fun (w1 : World) (h : Below w.heap.size w w1) => inForm_calls a cap xs w1 (hx.later h) hfx hlx
  have hD1 := fun (w1 : World) (h : Below w.heap.size w w1) => docCheck_calls d w1 (hE.below h (Nat.le_refl _)) (Doc.later hd h) hf
  have hD2 := fun (w1 : World) (h : Below w.heap.size w w1) => docCheck_calls d' w1 (hE.below h (Nat.le_refl _)) (Doc.later hd' h) hf'
  have hH1 := fun (id : Int) (w1 : World) (h : Below w.heap.size w w1) => has_calls d id w1 (hd.2.1.later h) hf.2.2.2.2.2.2.2.2.1
  have hH2 := fun (id : Int) (w1 : World) (h : Below w.heap.size w w1) => has_calls d' id w1 (hd'.2.1.later h) hf'.2.2.2.2.2.2.2.2.1
  have hFI := fun (id : Int) (w1 : World) (h : Below w.heap.size w w1) => linkFind_calls a cap xs id w1 (hx.later h) hlx
  have HX := Lib.hid hx
  have HFX := Lib.hid hfx
  have HEV := Lib.hid hd.2.1
  have HEV' := Lib.hid hd'.2.1
  have HFE' := Lib.hid hf'.2.2.2.2.2.2.2.1
  have hle := hf.2.2.2.2.2.2.2.2.1
  have hle' := hf'.2.2.2.2.2.2.2.2.1
  rw [h1] at hIF
  rw [h2] at hD1
  rw [h3] at hD2
  rw [show chkErr xs d d' = chk1 xs d.evs d'.evs by unfold chkErr; rw [if_neg (by rw [h1]; decide), if_neg (by rw [h2]; decide), if_neg (by rw [h3]; decide)]]
  clear h1 h2 h3
  generalize hG : chk1 xs d.evs d'.evs = G at *
  have HG := Lib.hid hG
  clear hG
  have HQ := Lib.hid (fun w' (hb : Below w.heap.size w w') => (show (fun (e : Ending) w' => e = .returned (.int .i64 G) ∧ Below w.heap.size w w') (.returned (.int .i64 G)) w' from ⟨rfl, hb⟩))
  have HIF := Lib.hid hIF; have HD1 := Lib.hid hD1; have HD2 := Lib.hid hD2; have HH1 := Lib.hid hH1; have HH2 := Lib.hid hH2; have HFI := Lib.hid hFI
  clear hIF hD1 hD2 hH1 hH2 hFI hd hd' hf hf' hfx hE hx
  generalize (fun (e : Ending) w' => e = .returned (.int .i64 G) ∧ Below w.heap.size w w') = Q at *
  obtain ⟨title, lang, rate, drop, last, ra, rc, regs, ea, ec, evs, ca, cc, cms⟩ := d
  obtain ⟨title', lang', rate', drop', last', ra', rc', regs', ea', ec', evs', ca', cc', cms'⟩ := d'
  simp only at HEV HEV' hle hle' HH1 HH2 HFE'
  simp only [Doc.enc] at HD1 HD2 HH1 HH2 ⊢
  generalize hds : #[Value.string title, .string lang, .int .u8 rate, .bool drop, .int .i64 last, .slice ra regs.length rc, .slice ea evs.length ec, .slice ca cms.length cc] = ds at *
  generalize hes : #[Value.string title', .string lang', .int .u8 rate', .bool drop', .int .i64 last', .slice ra' regs'.length rc', .slice ea' evs'.length ec', .slice ca' cms'.length cc'] = es at *
  have f0 := box2_fst w ds es 28 28 0 (.string title) (by rw [← hds]; rfl)
  have f1 := box2_fst w ds es 28 28 1 (.string lang) (by rw [← hds]; rfl)
  have f2 := box2_fst w ds es 28 28 2 (.int .u8 rate) (by rw [← hds]; rfl)
  have f3 := box2_fst w ds es 28 28 3 (.bool drop) (by rw [← hds]; rfl)
  have f4 := box2_fst w ds es 28 28 4 (.int .i64 last) (by rw [← hds]; rfl)
  have f5 := box2_fst w ds es 28 28 5 (.slice ra regs.length rc) (by rw [← hds]; rfl)
  have f6 := box2_fst w ds es 28 28 6 (.slice ea evs.length ec) (by rw [← hds]; rfl)
  have f7 := box2_fst w ds es 28 28 7 (.slice ca cms.length cc) (by rw [← hds]; rfl)
  have g0 := box2_snd w ds es 28 28 0 (.string title') (by rw [← hes]; rfl)
  have g1 := box2_snd w ds es 28 28 1 (.string lang') (by rw [← hes]; rfl)
  have g2 := box2_snd w ds es 28 28 2 (.int .u8 rate') (by rw [← hes]; rfl)
  have g3 := box2_snd w ds es 28 28 3 (.bool drop') (by rw [← hes]; rfl)
  have g4 := box2_snd w ds es 28 28 4 (.int .i64 last') (by rw [← hes]; rfl)
  have g5 := box2_snd w ds es 28 28 5 (.slice ra' regs'.length rc') (by rw [← hes]; rfl)
  have g6 := box2_snd w ds es 28 28 6 (.slice ea' evs'.length ec') (by rw [← hes]; rfl)
  have g7 := box2_snd w ds es 28 28 7 (.slice ca' cms'.length cc') (by rw [← hes]; rfl)
  have HB := Lib.hid (fun (w1 : World) (h : Below (w.heap.size + 2) ((w.alloc (.cells ds 28)).alloc (.cells es 28)) w1) => box2_below h)
  have hb0 : Below (w.heap.size + 2) ((w.alloc (.cells ds 28)).alloc (.cells es 28)) ((w.alloc (.cells ds 28)).alloc (.cells es 28)) := Below.refl _ _
  have hsz : ((w.alloc (.cells ds 28)).alloc (.cells es 28)).heap.size = w.heap.size + 2 := by simp
  generalize hW0 : (w.alloc (.cells ds 28)).alloc (.cells es 28) = W0 at *
  have HW0 := Lib.hid hW0
  have HLT := Lib.hid (fun (w1 : World) (h : Below (w.heap.size + 2) W0 w1) => (show w.heap.size + 2 ≤ w1.heap.size by have := h.size; rw [hsz] at this; exact this))
  have HT0 := Lib.hid (fun (w2 w3 : World) (h : Below (w.heap.size + 2) W0 w2) (h3 : Below w2.heap.size w2 w3) => h.trans (h3.mono (HLT.out _ h)))
  have hmm := @run_makeMap Tryz.prog
  clear hW0 hsz
  go_enter Tryz.func11, Tryz.ntmps11
  subst hds
  subst hes
  go_wp2_with fail
  rw [HW0.out]
  refine (HIF.out _ (HB.out _ hb0)).mono ?_
  rintro e w1 ⟨rfl, hb1⟩
  have hc1 := HT0.out _ _ hb0 hb1
  clear hb1 HIF
  go_wp2_with fail
  have HL2 := Lib.hid (fun o o' => ((hc1.alloc (HLT.out _ hc1) o).alloc (by have := HLT.out _ hc1; simp; omega) o' : Below (w.heap.size + 2) W0 ((w1.alloc o).alloc o')))
  refine wp_loop_rounds 3 ?_
  rw [rounds_succ]
  go_wp2_with fail
  refine (HD1.out _ (HB.out _ (HL2.out _ _))).mono ?_
  rintro e w2 ⟨rfl, hb2⟩
  have hc2 := HT0.out _ _ (HL2.out _ _) hb2
  have k0 := blk_cell (alloc_blk (heap_alloc_last w1 (.cells #[Value.string title, .string lang, .int .u8 rate, .bool drop, .int .i64 last, .slice ra regs.length rc, .slice ea evs.length ec, .slice ca cms.length cc, Value.string title', .string lang', .int .u8 rate', .bool drop', .int .i64 last', .slice ra' regs'.length rc', .slice ea' evs'.length ec', .slice ca' cms'.length cc'] 28)) _) (by rw [World.size_alloc, World.size_alloc]; omega) 8 (.string title') rfl w2 hb2
  have k1 := blk_cell (alloc_blk (heap_alloc_last w1 (.cells #[Value.string title, .string lang, .int .u8 rate, .bool drop, .int .i64 last, .slice ra regs.length rc, .slice ea evs.length ec, .slice ca cms.length cc, Value.string title', .string lang', .int .u8 rate', .bool drop', .int .i64 last', .slice ra' regs'.length rc', .slice ea' evs'.length ec', .slice ca' cms'.length cc'] 28)) _) (by rw [World.size_alloc, World.size_alloc]; omega) 9 (.string lang') rfl w2 hb2
  have k2 := blk_cell (alloc_blk (heap_alloc_last w1 (.cells #[Value.string title, .string lang, .int .u8 rate, .bool drop, .int .i64 last, .slice ra regs.length rc, .slice ea evs.length ec, .slice ca cms.length cc, Value.string title', .string lang', .int .u8 rate', .bool drop', .int .i64 last', .slice ra' regs'.length rc', .slice ea' evs'.length ec', .slice ca' cms'.length cc'] 28)) _) (by rw [World.size_alloc, World.size_alloc]; omega) 10 (.int .u8 rate') rfl w2 hb2
  have k3 := blk_cell (alloc_blk (heap_alloc_last w1 (.cells #[Value.string title, .string lang, .int .u8 rate, .bool drop, .int .i64 last, .slice ra regs.length rc, .slice ea evs.length ec, .slice ca cms.length cc, Value.string title', .string lang', .int .u8 rate', .bool drop', .int .i64 last', .slice ra' regs'.length rc', .slice ea' evs'.length ec', .slice ca' cms'.length cc'] 28)) _) (by rw [World.size_alloc, World.size_alloc]; omega) 11 (.bool drop') rfl w2 hb2
  have k4 := blk_cell (alloc_blk (heap_alloc_last w1 (.cells #[Value.string title, .string lang, .int .u8 rate, .bool drop, .int .i64 last, .slice ra regs.length rc, .slice ea evs.length ec, .slice ca cms.length cc, Value.string title', .string lang', .int .u8 rate', .bool drop', .int .i64 last', .slice ra' regs'.length rc', .slice ea' evs'.length ec', .slice ca' cms'.length cc'] 28)) _) (by rw [World.size_alloc, World.size_alloc]; omega) 12 (.int .i64 last') rfl w2 hb2
  have k5 := blk_cell (alloc_blk (heap_alloc_last w1 (.cells #[Value.string title, .string lang, .int .u8 rate, .bool drop, .int .i64 last, .slice ra regs.length rc, .slice ea evs.length ec, .slice ca cms.length cc, Value.string title', .string lang', .int .u8 rate', .bool drop', .int .i64 last', .slice ra' regs'.length rc', .slice ea' evs'.length ec', .slice ca' cms'.length cc'] 28)) _) (by rw [World.size_alloc, World.size_alloc]; omega) 13 (.slice ra' regs'.length rc') rfl w2 hb2
  have k6 := blk_cell (alloc_blk (heap_alloc_last w1 (.cells #[Value.string title, .string lang, .int .u8 rate, .bool drop, .int .i64 last, .slice ra regs.length rc, .slice ea evs.length ec, .slice ca cms.length cc, Value.string title', .string lang', .int .u8 rate', .bool drop', .int .i64 last', .slice ra' regs'.length rc', .slice ea' evs'.length ec', .slice ca' cms'.length cc'] 28)) _) (by rw [World.size_alloc, World.size_alloc]; omega) 14 (.slice ea' evs'.length ec') rfl w2 hb2
  have k7 := blk_cell (alloc_blk (heap_alloc_last w1 (.cells #[Value.string title, .string lang, .int .u8 rate, .bool drop, .int .i64 last, .slice ra regs.length rc, .slice ea evs.length ec, .slice ca cms.length cc, Value.string title', .string lang', .int .u8 rate', .bool drop', .int .i64 last', .slice ra' regs'.length rc', .slice ea' evs'.length ec', .slice ca' cms'.length cc'] 28)) _) (by rw [World.size_alloc, World.size_alloc]; omega) 15 (.slice ca' cms'.length cc') rfl w2 hb2
  clear hb2 HD1
  go_wp2_with fail
  have HL1 := Lib.hid (fun o => (hc2.alloc (HLT.out _ hc2) o : Below (w.heap.size + 2) W0 (w2.alloc o)))
  rw [rounds_succ]
  go_wp2_with fail
  refine (HD2.out _ (HB.out _ (HL1.out _))).mono ?_
  rintro e w3 ⟨rfl, hb3⟩
  have hc3 := HT0.out _ _ (HL1.out _) hb3
  clear hb3 HD2 k0 k1 k2 k3 k4 k5 k6 k7
  go_wp2_with fail
  have HMB := Lib.hid (BMap.made w3)
  have hm3 : Below (w.heap.size + 2) W0 (w3.alloc (.map #[] 0)) := hc3.alloc (HLT.out _ hc3) _
  have hmb := HLT.out _ hc3
  rw [rounds_succ]
  go_wp2_with fail
  clear HL2 HL1 hc1 hc2 hc3 hmm
  generalize w3.heap.size = mb at *
  go_loopw [39] (fun i wr => ∃ k : Nat, k ≤ xs.length ∧ i = .int .i64 k ∧ firstBad (badNone evs evs') 6 (xs.drop k) (chk2 xs evs evs') = G ∧ AimRel xs (w.heap.size + 2) W0 mb k wr) (fun i _ => xs.length - (intOf i).toNat)
  case atStart => exact ⟨0, by omega, rfl, HG.out, HMB.out, hm3⟩
  case round =>
    obtain ⟨k, hk, rfl, hp, hM, hb⟩ := hrel
    have hbs := HLT.out _ hb
    clear HMB hm3 HG
    have hba : ∀ o, Below (w.heap.size + 2) W0 (wr.alloc o) := fun o => hb.alloc hbs o
    by_cases hlt : k < xs.length
    · obtain ⟨b, off, x, rfl, hbl, hxk, hc, _⟩ := (HX.out.later (HB.out _ hb)).at_ hlt
      have hft := HFX.out x (List.mem_of_getElem? hxk)
      rw [firstBad_at _ _ xs _ k x hxk] at hp
      have HPT := Lib.hid (aimAt_put xs k x hxk)
      have HA := Lib.hid (fun o => HH1.out x.tpl (wr.alloc o) (HB.out _ (hba o)))
      have HB0 := Lib.hid (fun o => HH2.out x.tgt (wr.alloc o) (HB.out _ (hba o)))
      have HBB2 := Lib.hid (fun w5 h => HH2.out x.tgt w5 (HB.out w5 h))
      have HKB := Lib.hid (fun (o : Obj) (w5 : World) (h : Below (wr.alloc o).heap.size (wr.alloc o) w5) => (hM.alloc o).below h (by have := hM.lt; simp; omega))
      have HKB6 := Lib.hid (fun (w5 w6 : World) (_ : Below (w.heap.size + 2) W0 w5) (hk : BMap w5 mb k (aimAt xs k)) (h : Below w5.heap.size w5 w6) => hk.below h hk.lt)
      have hMo := Lib.hid (fun o => hM.alloc o)
      have hi2 := hft.2.1
      generalize hR : firstBad (badNone evs evs') 6 (xs.drop (k + 1)) (chk2 xs evs evs') = R at hp
      have HRR := Lib.hid hR
      clear hR
      unfold badNone at hp
      obtain ⟨tpl, tgt, st⟩ := x
      simp only at hp HA HB0 HBB2 HPT hi2
      generalize posOf (hasId tpl) evs = N1 at *
      generalize posOf (hasId tgt) evs' = N2 at *
      have HP := Lib.hid hp
      have d0 := hc 0 _ rfl; have d1 := hc 1 _ rfl; have d2 := hc 2 _ rfl
      simp only [Nat.add_zero] at d0 d1 d2
      have HGR := Lib.hid (fun (w5 w6 : World) (h : Below (w.heap.size + 2) W0 w5) (hg : w5.grownBy w6 (some mb)) => h.grown hg (HLT.out _ h) (fun j hj => by simp at hj; omega))
      have HKM := Lib.hid (show k < maxLen by unfold maxLen; omega)
      clear hc hxk hft hp hM HFI
      by_cases hs : st = 4
      · subst hs
        by_cases ht : tgt = 0
        · subst ht
          have HV := Lib.hid (show R = G by rw [← HP.out, if_neg (by simp)])
          clear HP
          go_wp2_with (at_mapUpdate; refine Hid.out ?_)
          refine Lib.hid ?_
          refine wpList_putB _ rfl _ _ _ rfl mb k _ (hMo.out _) rfl _ hi2 rfl true rfl HKM.out ?_
          intro w7 hM7 hg7
          have hM8 := hM7
          rw [HPT.out] at hM8
          have hb8 := HGR.out _ _ (hba _) hg7
          clear hM7 hg7
          go_wp2_with fail
          go_roundw
          case rel => exact ⟨k + 1, by omega, by go_num, by rw [HRR.out]; exact HV.out, hM8, hb8⟩
          case measure => simp [intOf]; omega
        · have ht1 : (tgt != 0) = true := by simpa using ht
          have ht2 : (tgt == 0) = false := by simpa using ht
          by_cases hn : 0 ≤ N2
          · have hnd : decide (0 ≤ N2) = true := by simpa using hn
            have HV := Lib.hid (show R = G by rw [← HP.out, if_neg (by simp [hn])])
            clear HP ht
            go_wp2_with fail
            refine (HB0.out _).mono ?_
            rintro e w6 ⟨rfl, hb6⟩
            have hc6 := HT0.out _ _ (hba _) hb6
            have hk6 := Lib.hid (HKB.out _ _ hb6)
            rw [World.size_alloc] at hb6
            have e0 := box_at hb6 0 _ rfl
            have e1 := box_at hb6 1 _ rfl
            have e2 := box_at hb6 2 _ rfl
            clear hb6
            go_wp2_with (at_mapUpdate; refine Hid.out ?_)
            refine Lib.hid ?_
            refine wpList_putB _ rfl _ _ _ rfl mb k _ hk6.out rfl _ hi2 rfl true rfl HKM.out ?_
            intro w7 hM7 hg7
            have hM8 := hM7
            rw [HPT.out] at hM8
            have hb8 := HGR.out _ _ hc6 hg7
            clear hM7 hg7
            go_wp2_with fail
            go_roundw
            case rel => exact ⟨k + 1, by omega, by go_num, by rw [HRR.out]; exact HV.out, hM8, hb8⟩
            case measure => simp [intOf]; omega
          · have hnd : decide (0 ≤ N2) = false := by simpa using hn
            have HV := Lib.hid (show (6 : Int) = G by rw [← HP.out, if_pos (by simp [hn, ht])])
            clear HP ht
            go_wp2_with fail
            refine (HB0.out _).mono ?_
            rintro e w6 ⟨rfl, hb6⟩
            have hc6 := HT0.out _ _ (hba _) hb6
            have hk6 := Lib.hid (HKB.out _ _ hb6)
            rw [World.size_alloc] at hb6
            have e0 := box_at hb6 0 _ rfl
            have e1 := box_at hb6 1 _ rfl
            have e2 := box_at hb6 2 _ rfl
            clear hb6
            go_wp2_with fail
            have hq := HQ.out _ (HB.out _ hc6)
            rw [← HV.out] at hq
            exact hq
      · have hs1 : (st != 4) = true := by simpa using hs
        have hs2 : (st == 4) = false := by simpa using hs
        by_cases hm : 0 ≤ N1
        · have hmd : decide (0 ≤ N1) = true := by simpa using hm
          by_cases ht : tgt = 0
          · subst ht
            have HV := Lib.hid (show R = G by rw [← HP.out, if_neg (by simp [hm])])
            clear HP hs
            go_wp2_with fail
            refine (HA.out _).mono ?_
            rintro e w5 ⟨rfl, hb5⟩
            have hc5 := HT0.out _ _ (hba _) hb5
            have hk5 := Lib.hid (HKB.out _ _ hb5)
            rw [World.size_alloc] at hb5
            have e0 := box_at hb5 0 _ rfl
            have e1 := box_at hb5 1 _ rfl
            have e2 := box_at hb5 2 _ rfl
            have hl5 : wr.heap.size < w5.heap.size := by have := hb5.size; rw [World.size_alloc] at this; omega
            clear hb5
            go_wp2_with (at_mapUpdate; refine Hid.out ?_)
            refine Lib.hid ?_
            refine wpList_putB _ rfl _ _ _ rfl mb k _ hk5.out rfl _ hi2 rfl true rfl HKM.out ?_
            intro w7 hM7 hg7
            have hM8 := hM7
            rw [HPT.out] at hM8
            have hb8 := HGR.out _ _ hc5 hg7
            clear hM7 hg7
            go_wp2_with fail
            go_roundw
            case rel => exact ⟨k + 1, by omega, by go_num, by rw [HRR.out]; exact HV.out, hM8, hb8⟩
            case measure => simp [intOf]; omega
          · have ht1 : (tgt != 0) = true := by simpa using ht
            have ht2 : (tgt == 0) = false := by simpa using ht
            by_cases hn : 0 ≤ N2
            · have hnd : decide (0 ≤ N2) = true := by simpa using hn
              have HV := Lib.hid (show R = G by rw [← HP.out, if_neg (by simp [hn, hm])])
              clear HP ht hs
              go_wp2_with fail
              refine (HA.out _).mono ?_
              rintro e w5 ⟨rfl, hb5⟩
              have hc5 := HT0.out _ _ (hba _) hb5
              have hk5 := Lib.hid (HKB.out _ _ hb5)
              rw [World.size_alloc] at hb5
              have e0 := box_at hb5 0 _ rfl
              have e1 := box_at hb5 1 _ rfl
              have e2 := box_at hb5 2 _ rfl
              have hl5 : wr.heap.size < w5.heap.size := by have := hb5.size; rw [World.size_alloc] at this; omega
              clear hb5
              go_wp2_with fail
              refine (HBB2.out _ hc5).mono ?_
              rintro e w6 ⟨rfl, hb6⟩
              have hc6 := HT0.out _ _ hc5 hb6
              have hk6 := Lib.hid (HKB6.out _ _ hc5 hk5.out hb6)
              have m1 := (hb6.cell (p := ⟨wr.heap.size, 1, none⟩) hl5).trans e1
              clear hb6
              go_wp2_with (at_mapUpdate; refine Hid.out ?_)
              refine Lib.hid ?_
              refine wpList_putB _ rfl _ _ _ rfl mb k _ hk6.out rfl _ hi2 rfl true rfl HKM.out ?_
              intro w7 hM7 hg7
              have hM8 := hM7
              rw [HPT.out] at hM8
              have hb8 := HGR.out _ _ hc6 hg7
              clear hM7 hg7
              go_wp2_with fail
              go_roundw
              case rel => exact ⟨k + 1, by omega, by go_num, by rw [HRR.out]; exact HV.out, hM8, hb8⟩
              case measure => simp [intOf]; omega
            · have hnd : decide (0 ≤ N2) = false := by simpa using hn
              have HV := Lib.hid (show (6 : Int) = G by rw [← HP.out, if_pos (by simp [hn, ht])])
              clear HP ht hs
              go_wp2_with fail
              refine (HA.out _).mono ?_
              rintro e w5 ⟨rfl, hb5⟩
              have hc5 := HT0.out _ _ (hba _) hb5
              have hk5 := Lib.hid (HKB.out _ _ hb5)
              rw [World.size_alloc] at hb5
              have e0 := box_at hb5 0 _ rfl
              have e1 := box_at hb5 1 _ rfl
              have e2 := box_at hb5 2 _ rfl
              have hl5 : wr.heap.size < w5.heap.size := by have := hb5.size; rw [World.size_alloc] at this; omega
              clear hb5
              go_wp2_with fail
              refine (HBB2.out _ hc5).mono ?_
              rintro e w6 ⟨rfl, hb6⟩
              have hc6 := HT0.out _ _ hc5 hb6
              have hk6 := Lib.hid (HKB6.out _ _ hc5 hk5.out hb6)
              have m1 := (hb6.cell (p := ⟨wr.heap.size, 1, none⟩) hl5).trans e1
              clear hb6
              go_wp2_with fail
              have hq := HQ.out _ (HB.out _ hc6)
              rw [← HV.out] at hq
              exact hq
        · have hmd : decide (0 ≤ N1) = false := by simpa using hm
          have HV := Lib.hid (show (6 : Int) = G by rw [← HP.out, if_pos (by simp [hm, hs])])
          clear HP hs
          go_wp2_with fail
          refine (HA.out _).mono ?_
          rintro e w5 ⟨rfl, hb5⟩
          have hc5 := HT0.out _ _ (hba _) hb5
          have hk5 := Lib.hid (HKB.out _ _ hb5)
          rw [World.size_alloc] at hb5
          have e0 := box_at hb5 0 _ rfl
          have e1 := box_at hb5 1 _ rfl
          have e2 := box_at hb5 2 _ rfl
          have hl5 : wr.heap.size < w5.heap.size := by have := hb5.size; rw [World.size_alloc] at this; omega
          clear hb5
          go_wp2_with fail
          have hq := HQ.out _ (HB.out _ hc5)
          rw [← HV.out] at hq
          exact hq
    · obtain rfl : k = xs.length := by omega
      rw [firstBad_end] at hp
      have HG2 := Lib.hid (show firstBad (badState evs) 17 (xs.drop 0) (chk3 xs evs evs') = G from hp)
      have HMA := Lib.hid hM
      have hmlt := hM.lt
      have hb2 : Below wr.heap.size wr wr := Below.refl _ _
      clear hp hM HH2 hba
      go_wp2_with fail
      obtain ⟨wo, rfl⟩ : ∃ wo : World, wo = wr := ⟨_, rfl⟩
      go_loopw [71] (fun i wr => ∃ k : Nat, k ≤ xs.length ∧ i = .int .i64 k ∧ firstBad (badState evs) 17 (xs.drop k) (chk3 xs evs evs') = G ∧ Below wo.heap.size wo wr) (fun i _ => xs.length - (intOf i).toNat)
      case atStart => exact ⟨0, by omega, rfl, HG2.out, Below.refl _ _⟩
      case round =>
        obtain ⟨k, hk', rfl, hp, hbo⟩ := hrel
        have hb' := HT0.out _ _ hb hbo
        have hbs' := HLT.out _ hb'
        have hba : ∀ o, Below (w.heap.size + 2) W0 (wr.alloc o) := fun o => hb'.alloc hbs' o
        have HBO := Lib.hid (fun (o : Obj) (w5 : World) (h : Below (wr.alloc o).heap.size (wr.alloc o) w5) => (hbo.alloc hbo.size o).trans (h.mono (by have := hbo.size; simp; omega)))
        have HBO0 := Lib.hid (fun (o : Obj) => hbo.alloc hbo.size o)
        clear HG2
        by_cases hlt : k < xs.length
        · obtain ⟨b, off, x, rfl, hbl, hxk, hc, _⟩ := (HX.out.later (HB.out _ hb')).at_ hlt
          rw [firstBad_at _ _ xs _ k x hxk] at hp
          have HA := Lib.hid (fun o => HH1.out x.tpl (wr.alloc o) (HB.out _ (hba o)))
          generalize hR : firstBad (badState evs) 17 (xs.drop (k + 1)) (chk3 xs evs evs') = R at hp
          have HRR := Lib.hid hR
          clear hR
          unfold badState at hp
          obtain ⟨tpl, tgt, st⟩ := x
          simp only at hp HA
          generalize posOf (hasId tpl) evs = N1 at *
          have HP := Lib.hid hp
          have d0 := hc 0 _ rfl; have d1 := hc 1 _ rfl; have d2 := hc 2 _ rfl
          simp only [Nat.add_zero] at d0 d1 d2
          clear hc hxk hp HFI
          by_cases hs : st = 4
          · subst hs
            by_cases hm : 0 ≤ N1
            · have hmd : decide (0 ≤ N1) = true := by simpa using hm
              have HV := Lib.hid (show (17 : Int) = G by rw [← HP.out, if_pos (by simp [hm])])
              clear HP
              go_wp2_with fail
              refine (HA.out _).mono ?_
              rintro e w5 ⟨rfl, hb5⟩
              have hc5 := HT0.out _ _ (hba _) hb5
              clear hb5
              go_wp2_with fail
              have hq := HQ.out _ (HB.out _ hc5)
              rw [← HV.out] at hq
              exact hq
            · have hmd : decide (0 ≤ N1) = false := by simpa using hm
              have HV := Lib.hid (show R = G by rw [← HP.out, if_neg (by simp [hm])])
              clear HP
              go_wp2_with fail
              refine (HA.out _).mono ?_
              rintro e w5 ⟨rfl, hb5⟩
              have hc5 := HBO.out _ _ hb5
              clear hb5
              go_wp2_with fail
              go_roundw
              case rel => exact ⟨k + 1, by omega, by go_num, by rw [HRR.out]; exact HV.out, hc5⟩
              case measure => simp [intOf]; omega
          · have hs2 : (st == 4) = false := by simpa using hs
            have HV := Lib.hid (show R = G by rw [← HP.out, if_neg (by simp [hs])])
            clear HP hs
            go_wp2_with fail
            go_roundw
            case rel => exact ⟨k + 1, by omega, by go_num, by rw [HRR.out]; exact HV.out, HBO0.out _⟩
            case measure => simp [intOf]; omega
        · obtain rfl : k = xs.length := by omega
          rw [firstBad_end] at hp
          have HG3 := Lib.hid (show firstBad (badTpl xs) 7 (evs.drop 0) (chk4 xs evs') = G from hp)
          clear hp HH1 hba HBO HBO0
          go_wp2_with fail
          obtain ⟨wq, rfl⟩ : ∃ wq : World, wq = wr := ⟨_, rfl⟩
          go_loopw [88] (fun i wr => ∃ k : Nat, k ≤ evs.length ∧ i = .int .i64 k ∧ firstBad (badTpl xs) 7 (evs.drop k) (chk4 xs evs') = G ∧ Below wo.heap.size wo wr) (fun i _ => evs.length - (intOf i).toNat)
          case atStart => exact ⟨0, by omega, rfl, HG3.out, hbo⟩
          case round =>
            obtain ⟨k, hk', rfl, hp, hbo'⟩ := hrel
            clear HG3 hb' hbs' hbo
            have hb' := HT0.out _ _ hb hbo'
            have hbs' := HLT.out _ hb'
            have hba : ∀ o, Below (w.heap.size + 2) W0 (wr.alloc o) := fun o => hb'.alloc hbs' o
            have HBO := Lib.hid (fun (o : Obj) (w5 : World) (h : Below (wr.alloc o).heap.size (wr.alloc o) w5) => (hbo'.alloc hbo'.size o).trans (h.mono (by have := hbo'.size; simp; omega)))
            by_cases hlt : k < evs.length
            · obtain ⟨b, off, x, rfl, hbl, hxk, hc, _⟩ := (HEV.out.later (HB.out _ hb')).at_ hlt
              rw [firstBad_at _ _ evs _ k x hxk] at hp
              have HA := Lib.hid (fun o => HFI.out x.id (wr.alloc o) (HB.out _ (hba o)))
              generalize hR : firstBad (badTpl xs) 7 (evs.drop (k + 1)) (chk4 xs evs') = R at hp
              have HRR := Lib.hid hR
              clear hR
              unfold badTpl at hp
              obtain ⟨xid, xin, xout, xreg, xkind, xsp, xa, xc, xrows⟩ := x
              simp only at hp HA
              generalize posOf (hasTpl xid) xs = N1 at *
              have HP := Lib.hid hp
              have d0 := hc 0 _ rfl; have d1 := hc 1 _ rfl; have d2 := hc 2 _ rfl; have d3 := hc 3 _ rfl; have d4 := hc 4 _ rfl; have d5 := hc 5 _ rfl; have d6 := hc 6 _ rfl
              simp only [Nat.add_zero] at d0 d1 d2 d3 d4 d5 d6
              clear hc hxk hp
              by_cases hm : N1 < 0
              · have HV := Lib.hid (show (7 : Int) = G by rw [← HP.out, if_pos (by simp [hm])])
                clear HP
                go_wp2_with fail
                refine (HA.out _).mono ?_
                rintro e w5 ⟨rfl, hb5⟩
                have hc5 := HT0.out _ _ (hba _) hb5
                clear hb5
                go_wp2_with fail
                have hq := HQ.out _ (HB.out _ hc5)
                rw [← HV.out] at hq
                exact hq
              · have hm' : 0 ≤ N1 := by omega
                have HV := Lib.hid (show R = G by rw [← HP.out, if_neg (by simp; omega)])
                clear HP
                go_wp2_with fail
                refine (HA.out _).mono ?_
                rintro e w5 ⟨rfl, hb5⟩
                have hc5 := HBO.out _ _ hb5
                clear hb5
                go_wp2_with fail
                go_roundw
                case rel => exact ⟨k + 1, by omega, by go_num, by rw [HRR.out]; exact HV.out, hc5⟩
                case measure => simp [intOf]; omega
            · obtain rfl : k = evs.length := by omega
              rw [firstBad_end] at hp
              have HG4 := Lib.hid (show firstBad (badTgt xs) 7 (evs'.drop 0) 0 = G from hp)
              clear hp HFI hba HBO
              go_wp2_with fail
              obtain ⟨wp, rfl⟩ : ∃ wp : World, wp = wr := ⟨_, rfl⟩
              go_loopw [101] (fun i wr => ∃ k : Nat, k ≤ evs'.length ∧ i = .int .i64 k ∧ firstBad (badTgt xs) 7 (evs'.drop k) 0 = G ∧ Below wo.heap.size wo wr) (fun i _ => evs'.length - (intOf i).toNat)
              case atStart => exact ⟨0, by omega, rfl, HG4.out, hbo'⟩
              case round =>
                obtain ⟨k, hk', rfl, hp, hbo⟩ := hrel
                clear HG4 hb' hbs' hbo'
                have hb' := HT0.out _ _ hb hbo
                by_cases hlt : k < evs'.length
                · obtain ⟨b, off, x, rfl, hbl, hxk, hc, _⟩ := (HEV'.out.later (HB.out _ hb')).at_ hlt
                  have hft := HFE'.out x (List.mem_of_getElem? hxk)
                  rw [firstBad_at _ _ evs' _ k x hxk] at hp
                  have HLK := Lib.hid (fun (o : Obj) => (HMA.out.below (hbo.alloc hbo.size o) hmlt).look hft.1)
                  have HBO0 := Lib.hid (fun (o : Obj) => hbo.alloc hbo.size o)
                  generalize hR : firstBad (badTgt xs) 7 (evs'.drop (k + 1)) 0 = R at hp
                  have HRR := Lib.hid hR
                  clear hR
                  unfold badTgt at hp
                  obtain ⟨xid, xin, xout, xreg, xkind, xsp, xa, xc, xrows⟩ := x
                  simp only at hp HLK
                  generalize aimAt xs xs.length xid = A1 at *
                  have HP := Lib.hid hp
                  have d0 := hc 0 _ rfl; have d1 := hc 1 _ rfl; have d2 := hc 2 _ rfl; have d3 := hc 3 _ rfl; have d4 := hc 4 _ rfl; have d5 := hc 5 _ rfl; have d6 := hc 6 _ rfl
                  simp only [Nat.add_zero] at d0 d1 d2 d3 d4 d5 d6
                  clear hc hxk hp hft
                  cases A1
                  · have HV := Lib.hid (show (7 : Int) = G by rw [← HP.out, if_pos (by simp)])
                    clear HP
                    go_wp2_with (at_lookup; refine Hid.out ?_)
                    refine Lib.hid ?_
                    refine wpList_lookup_run _ rfl _ _ _ _ rfl _ _ _ rfl rfl (HLK.out _) ?_
                    have HQ7 := Lib.hid (fun o => HQ.out _ (HB.out _ (HT0.out _ _ hb (HBO0.out o))))
                    rw [← HV.out] at HQ7
                    go_wp2_with fail
                    exact HQ7.out _
                  · have HV := Lib.hid (show R = G by rw [← HP.out, if_neg (by simp)])
                    clear HP
                    go_wp2_with (at_lookup; refine Hid.out ?_)
                    refine Lib.hid ?_
                    refine wpList_lookup_run _ rfl _ _ _ _ rfl _ _ _ rfl rfl (HLK.out _) ?_
                    go_wp2_with fail
                    go_roundw
                    case rel => exact ⟨k + 1, by omega, by go_num, by rw [HRR.out]; exact HV.out, HBO0.out _⟩
                    case measure => simp [intOf]; omega
                · obtain rfl : k = evs'.length := by omega
                  rw [firstBad_end] at hp
                  have HV := Lib.hid hp
                  clear hp
                  go_wp2_with fail
                  have hq := HQ.out _ (HB.out _ hb')
                  rw [← HV.out] at hq
                  exact hq


end Go.Proofs.YtdgakmpopgpijaaGreatDoor
