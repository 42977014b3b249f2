/- The contract of document.comments: the first error of the comments of a document. The contract of document.Check: the first error of a document. The contract of diff.Diff. -/
import Derived.Deep.RegionHeld3
import Derived.Deep.DeepCutAuto
import Derived.Deep.DrawnRows
import Derived.Test.YtnlnmbcaongehaaGreatDoorBase03
import Derived.Test.YtnlnmbcaongehaaGreatDoorBase06
set_option linter.unusedVariables false
set_option linter.unusedSimpArgs false
namespace Go.Proofs.YtnlnmbcaongehaaGreatDoor
open Go.RowKit
/-- Whether a comment's ID is not behind that of the one ahead of it. -/
def notBehind (prev : Option Cm) (c : Cm) : Bool := match prev with
  | none => false
  | some p => decide (c.id ≤ p.id)
/-- The first error of a comment. -/
def cmErr (last : Int) (f : Int → Option Nat) (evs : List Ev) (prev : Option Cm) (c : Cm) : Int :=
  if c.id < 1 ∨ last < c.id then 2 else if notBehind prev c = true then 8 else if (f c.id).isSome = true then 7 else if (anchErr last f evs c != 0) = true then anchErr last f evs c else
  if nameB c.author = false then 5 else if validB c.text = false then 10 else if c.text.toList = [] then 4 else if 400 < c.text.size then 9 else 0
def cmsFrom (last : Int) (f : Int → Option Nat) (evs : List Ev) : Option Cm → List Cm → Int
  | _, [] => 0
  | prev, c :: l => if (cmErr last f evs prev c != 0) = true then cmErr last f evs prev c else cmsFrom last f evs (some c) l
/-- The first error of the comments. -/
def cmsErr (last : Int) (f : Int → Option Nat) (evs : List Ev) (cms : List Cm) : Int := if 64 < cms.length then 9 else cmsFrom last f evs none cms
theorem cmsFrom_next (last : Int) (f : Int → Option Nat) (evs : List Ev) (xs : List Cm) (k : Nat) (c : Cm) (hx : xs[k]? = some c) (prev : Option Cm) (h : cmErr last f evs prev c = 0) : cmsFrom last f evs prev (xs.drop k) = cmsFrom last f evs (aheadOf xs (k + 1)) (xs.drop (k + 1)) := by
  rw [drop_at xs k c hx, cmsFrom, h, if_neg (by decide), aheadOf, hx]
theorem cmsFrom_stop (last : Int) (f : Int → Option Nat) (evs : List Ev) (xs : List Cm) (k : Nat) (c : Cm) (hx : xs[k]? = some c) (prev : Option Cm) (h : (cmErr last f evs prev c != 0) = true) : cmsFrom last f evs prev (xs.drop k) = cmErr last f evs prev c := by
  rw [drop_at xs k c hx, cmsFrom, if_pos h]
theorem cm_cases (last : Int) (f : Int → Option Nat) (evs : List Ev) (prev : Option Cm) (c : Cm) (A : Int) (hA : anchErr last f evs c = A) :
    (cmErr last f evs prev c = 2 ∧ c.id < 1) ∨ (cmErr last f evs prev c = 2 ∧ 1 ≤ c.id ∧ last < c.id) ∨ (1 ≤ c.id ∧ c.id ≤ last ∧
      ((notBehind prev c = true ∧ cmErr last f evs prev c = 8) ∨ (notBehind prev c = false ∧
        (((f c.id).isSome = true ∧ cmErr last f evs prev c = 7) ∨ ((f c.id).isSome = false ∧
          (((A != 0) = true ∧ cmErr last f evs prev c = A) ∨ (A = 0 ∧
            ((nameB c.author = false ∧ cmErr last f evs prev c = 5) ∨ (nameB c.author = true ∧
              ((validB c.text = false ∧ cmErr last f evs prev c = 10) ∨ (validB c.text = true ∧
                ((c.text.toList = [] ∧ cmErr last f evs prev c = 4) ∨ (¬ c.text.toList = [] ∧
                  ((400 < c.text.size ∧ cmErr last f evs prev c = 9) ∨ (c.text.size ≤ 400 ∧ cmErr last f evs prev c = 0))))))))))))))) := by
  unfold cmErr
  rw [hA]
  by_cases h1 : c.id < 1
  · left; simp [h1]
  right
  by_cases h2 : last < c.id
  · left; simp [h2]; omega
  right
  refine ⟨by omega, by omega, ?_⟩
  rw [if_neg (by omega)]
  cases h3 : notBehind prev c
  · right
    refine ⟨rfl, ?_⟩
    rw [if_neg (by decide)]
    cases h4 : (f c.id).isSome
    · right
      refine ⟨rfl, ?_⟩
      rw [if_neg (by decide)]
      by_cases h5 : A = 0
      · right
        refine ⟨h5, ?_⟩
        subst h5
        rw [if_neg (by decide)]
        cases h6 : nameB c.author
        · left; simp
        right
        refine ⟨rfl, ?_⟩
        rw [if_neg (by decide)]
        cases h7 : validB c.text
        · left; simp
        right
        refine ⟨rfl, ?_⟩
        rw [if_neg (by decide)]
        by_cases h8 : c.text.toList = []
        · left; rw [if_pos h8]; exact ⟨h8, rfl⟩
        right
        refine ⟨h8, ?_⟩
        rw [if_neg h8]
        by_cases h9 : 400 < c.text.size
        · left; rw [if_pos h9]; exact ⟨h9, rfl⟩
        · right; rw [if_neg h9]; exact ⟨by omega, rfl⟩
      · left
        rw [if_pos (by simpa using h5)]
        exact ⟨by simpa using h5, rfl⟩
    · left; simp
  · left; simp
set_option maxHeartbeats 1600000 in
theorem comments_many (d : Doc) (b : Nat) (f : Int → Option Nat) (w : World) (hn : 64 < d.cms.length) :
    Calls Tryz.prog 89 #[.agg d.enc.toArray, .map (some b)] w fun e w' => e = .returned (.int .i64 (cmsErr d.last f d.evs d.cms)) ∧ Below w.heap.size w w' := by
  rw [cmsErr, if_pos hn]
  obtain ⟨title, lang, rate, drop, last, ra, rc, regs, ea, ec, evs, ca, cc, cms⟩ := d
  simp only [Doc.enc]
  simp only at hn
  have hn2 : decide ((64 : Int) < (cms.length : Int)) = true := by simp; omega
  go_enter Tryz.func89, Tryz.ntmps89
  go_wp2_with fail
  go_ret
  exact ⟨rfl, (Below.refl _ _).alloc (Nat.le_refl _) _⟩
set_option maxRecDepth 100000 in
set_option maxHeartbeats 6400000 in
theorem comments_few (d : Doc) (b n : Nat) (f : Int → Option Nat) (w : World) (hE : Env w) (hd : d.lies w) (hfd : d.fits) (hM : IMap w b n f) (hf : ∀ z i, f z = some i → i < d.evs.length) (hn : d.cms.length ≤ 64) :
    Calls Tryz.prog 89 #[.agg d.enc.toArray, .map (some b)] w fun e w' => e = .returned (.int .i64 (cmsErr d.last f d.evs d.cms)) ∧ Below w.heap.size w w' := by
  rw [cmsErr, if_neg (by omega)]
  have HAN := Lib.hid (fun (c : Cm) (w1 : World) (h1 : Env w1) (h2 : EvsAt w1 d.ea d.evs) (h3 : c.fits) (h4 : IMap w1 b n f) => anchored_calls d c b n f w1 h1 h2 hfd.2.2.2.2.2.2.2.1 hfd.2.2.2.2.2.2.2.2.1 h3 h4 hf)
  obtain ⟨title, lang, rate, drop, last, ra, rc, regs, ea, ec, evs, ca, cc, cms⟩ := d
  obtain ⟨_, hde, hdc⟩ := hd
  obtain ⟨_, _, _, _, hi5, _, _, _, _, hfc, _⟩ := hfd
  simp only at hde hdc hfc hn hi5
  simp only [Doc.enc] at HAN ⊢
  generalize hG : cmsFrom last f evs none cms = G
  have H0 := Lib.hid (show cmsFrom last f evs (aheadOf cms 0) (cms.drop 0) = G by rw [List.drop_zero]; exact hG)
  have hn2 : decide ((64 : Int) < (cms.length : Int)) = false := by simp; omega
  generalize hds : #[Value.string title, .string lang, .int .u8 rate, .bool drop, .int .i64 last, .slice ra regs.length rc, .slice ea evs.length ec, .slice ca cms.length cc] = ds at HAN ⊢
  have f0 := box_cell w ds 27 0 (.string title) (by rw [← hds]; rfl)
  have f1 := box_cell w ds 27 1 (.string lang) (by rw [← hds]; rfl)
  have f2 := box_cell w ds 27 2 (.int .u8 rate) (by rw [← hds]; rfl)
  have f3 := box_cell w ds 27 3 (.bool drop) (by rw [← hds]; rfl)
  have f4 := box_cell w ds 27 4 (.int .i64 last) (by rw [← hds]; rfl)
  have f5 := box_cell w ds 27 5 (.slice ra regs.length rc) (by rw [← hds]; rfl)
  have f6 := box_cell w ds 27 6 (.slice ea evs.length ec) (by rw [← hds]; rfl)
  have f7 := box_cell w ds 27 7 (.slice ca cms.length cc) (by rw [← hds]; rfl)
  have HB := Lib.hid (fun (w1 : World) (h : Below (w.heap.size + 1) (w.alloc (.cells ds 27)) w1) => box_below h)
  have hb0 : Below (w.heap.size + 1) (w.alloc (.cells ds 27)) (w.alloc (.cells ds 27)) := Below.refl _ _
  have hsz : (w.alloc (.cells ds 27)).heap.size = w.heap.size + 1 := World.size_alloc _ _
  generalize hW0 : w.alloc (.cells ds 27) = W0 at *
  have HW0 := Lib.hid hW0
  have HSZ := Lib.hid hsz
  have HFC := Lib.hid hfc
  have HM := Lib.hid hM
  have HDE := Lib.hid hde
  have HDC := Lib.hid hdc
  clear hW0 hsz hfc hf hG hM hde hdc
  go_enter Tryz.func89, Tryz.ntmps89
  subst hds
  go_wp2_with fail
  rw [HW0.out]
  go_loopw [17] (fun i wr => ∃ k : Nat, k ≤ cms.length ∧ i = .int .i64 k ∧ cmsFrom last f evs (aheadOf cms k) (cms.drop k) = G ∧ Below (w.heap.size + 1) W0 wr) (fun i _ => cms.length - (intOf i).toNat)
  case atStart => exact ⟨0, by omega, rfl, H0.out, hb0⟩
  case round =>
    obtain ⟨k, hk, rfl, hp, hb⟩ := hrel
    have hbw := HB.out _ hb
    by_cases hlt : k < cms.length
    · have hRr := HDC.out.later hbw
      obtain ⟨b', off, c, rfl, hbl, hx, hc, _⟩ := hRr.at_ hlt
      have hft := HFC.out c (List.mem_of_getElem? hx)
      have hpv : (k = 0 ∧ aheadOf cms k = none) ∨ (∃ y, 1 ≤ k ∧ aheadOf cms k = some y ∧ ∀ w1, Below wr.heap.size wr w1 → w1.cell? ⟨b', off + (k - 1) * 8, none⟩ = some (.int .i64 y.id)) := by
        rcases Nat.eq_zero_or_pos k with rfl | hk0
        · exact .inl ⟨rfl, rfl⟩
        · obtain ⟨b'', off', y, hab, _, hy, hcy, _⟩ := hRr.at_ (show k - 1 < cms.length by omega)
          simp only [Option.some.injEq, Addr.mk.injEq, and_true] at hab
          obtain ⟨rfl, rfl⟩ := hab
          refine .inr ⟨y, hk0, ?_, fun w1 h => ?_⟩
          · obtain ⟨j, rfl⟩ : ∃ j, k = j + 1 := ⟨k - 1, by omega⟩
            simpa [aheadOf] using hy
          · rw [h.cell (p := ⟨b', off + (k - 1) * 8, none⟩) hbl]
            exact hcy 0 _ rfl
      have hwsz := hb.size
      rw [HSZ.out] at hwsz
      have HN := Lib.hid (cmsFrom_next last f evs cms k c hx (aheadOf cms k))
      have HS := Lib.hid (cmsFrom_stop last f evs cms k c hx (aheadOf cms k))
      have HP := Lib.hid hp
      have hcs := cm_cases last f evs (aheadOf cms k) c _ rfl
      have hgx := fun j v h => box_cell wr c.enc.toArray 52 j v h
      have HBW := Lib.hid (fun w1 (h : Below (wr.heap.size + 1) (wr.alloc (.cells c.enc.toArray 52)) w1) => (hb.alloc hwsz _).trans (h.mono (by omega)))
      have HBR := Lib.hid (fun w1 (h : Below (wr.heap.size + 1) (wr.alloc (.cells c.enc.toArray 52)) w1) => (((Below.refl wr.heap.size wr).alloc (Nat.le_refl _) _).trans (h.mono (by omega))))
      have hq0 : Below (wr.heap.size + 1) (wr.alloc (.cells c.enc.toArray 52)) (wr.alloc (.cells c.enc.toArray 52)) := Below.refl _ _
      have hbLit := hb.alloc hwsz (.cells c.enc.toArray 52)
      have HLK := Lib.hid ((HM.out.below (HB.out _ (HBW.out _ hq0)) HM.out.lt).look hft.1)
      have HAQ := Lib.hid (fun w1 (h : Below (wr.heap.size + 1) (wr.alloc (.cells c.enc.toArray 52)) w1) => HAN.out c w1 (hE.below (HB.out _ (HBW.out _ h)) (Nat.le_refl _)) (HDE.out.later (HB.out _ (HBW.out _ h))) hft (HM.out.below (HB.out _ (HBW.out _ h)) HM.out.lt))
      have HVL := Lib.hid (fun w1 (h : Below (wr.heap.size + 1) (wr.alloc (.cells c.enc.toArray 52)) w1) => valid_calls c.text w1 hft.2.2.2.2.2 (hE.below (HB.out _ (HBW.out _ h)) (Nat.le_refl _)))
      have HNM := Lib.hid (fun w1 => name_calls c.author w1 hft.2.2.2.2.1)
      have hft6 := hft.2.2.2.2.2
      generalize cmErr last f evs (aheadOf cms k) c = E at *
      generalize anchErr last f evs c = A at *
      generalize aheadOf cms k = pv at *
      obtain ⟨id, ev, frm, til, author, text, done, lost⟩ := c
      have d0 := hc 0 _ rfl; have d1 := hc 1 _ rfl; have d2 := hc 2 _ rfl; have d3 := hc 3 _ rfl; have d4 := hc 4 _ rfl; have d5 := hc 5 _ rfl; have d6 := hc 6 _ rfl; have d7 := hc 7 _ rfl
      have g0 := hgx 0 _ rfl; have g1 := hgx 1 _ rfl; have g2 := hgx 2 _ rfl; have g3 := hgx 3 _ rfl; have g4 := hgx 4 _ rfl; have g5 := hgx 5 _ rfl; have g6 := hgx 6 _ rfl; have g7 := hgx 7 _ rfl
      have hid1 := hft.1
      simp only [Nat.add_zero, Cm.enc] at d0 d1 d2 d3 d4 d5 d6 d7 g0 g1 g2 g3 g4 g5 g6 g7 HBW HBR hq0 HLK HAQ HVL HNM hcs hft6 hid1 hbLit
      have hsz1 : (wr.alloc (.cells #[.int .i64 id, .int .i64 ev, .int .i64 frm, .int .i64 til, .string author, .string text, .bool done, .bool lost] 52)).heap.size = wr.heap.size + 1 := World.size_alloc _ _
      have HLK0 := HLK
      generalize hW1 : wr.alloc (.cells #[.int .i64 id, .int .i64 ev, .int .i64 frm, .int .i64 til, .string author, .string text, .bool done, .bool lost] 52) = W1 at g0 g1 g2 g3 g4 g5 g6 g7 HBW HBR hq0 HAQ HVL hsz1 HLK0
      have HW1 := Lib.hid hW1
      have HSZ1 := Lib.hid hsz1
      have hqq : ∀ q, Below (wr.heap.size + 1) W1 (W1.drewN q) := fun q => below_drewN hq0 q
      have hWb := HBW.out _ hq0
      have hWq := fun q => HBW.out _ (hqq q)
      have HT := Lib.hid (fun (w2 w3 : World) (h : Below (wr.heap.size + 1) W1 w2) (h3 : Below w2.heap.size w2 w3) => h.trans (h3.mono (by have := h.size; rw [HSZ1.out] at this; exact this)))
      have hcell : (pv = none ∧ decide (0 < k) = false) ∨ (∃ y, 1 ≤ k ∧ pv = some y ∧ decide (0 < k) = true ∧ (1 : Int) ≤ (k : Int) ∧ (k : Int) - 1 < (cms.length : Int) ∧ IntKind.i64.wrap ((k : Int) - 1) = (k : Int) - 1 ∧ ((k : Int) - 1).toNat = k - 1 ∧ ∀ w1, Below (wr.heap.size + 1) W1 w1 → w1.cell? ⟨b', off + (k - 1) * 8, none⟩ = some (.int .i64 y.id)) := by
        rcases hpv with ⟨h1, h2⟩ | ⟨y, h1, h2, h3⟩
        · exact .inl ⟨h2, by simp; omega⟩
        · exact .inr ⟨y, h1, h2, by simp; omega, by omega, by omega, IntWalk.i64_in _ (by omega), by omega, fun w1 h => h3 w1 (HBR.out _ h)⟩
      clear hpv hc hgx hW1 hsz1 H0 hRr hp hx HAN hft HLK0
      rcases hcs with ⟨he, h1⟩ | ⟨he, h1, h2⟩ | ⟨h1, h2, ⟨h3, he⟩ | ⟨h3, hcs⟩⟩
      · have HEE := Lib.hid he
        clear he hcell
        go_wp2_with (at_lookup; refine wpList_lookup_run _ rfl _ _ _ _ rfl _ _ _ rfl rfl HLK.out ?_)
        rw [HW1.out]
        go_ret
        exact ⟨ret_int (by rw [← HP.out, HS.out (by rw [HEE.out]; rfl), HEE.out]), HB.out _ (HBW.out _ hq0)⟩
      · have HEE := Lib.hid he
        clear he hcell
        go_wp2_with (at_lookup; refine wpList_lookup_run _ rfl _ _ _ _ rfl _ _ _ rfl rfl HLK.out ?_)
        rw [HW1.out]
        go_ret
        exact ⟨ret_int (by rw [← HP.out, HS.out (by rw [HEE.out]; rfl), HEE.out]), HB.out _ (HBW.out _ hq0)⟩
      · have HEE := Lib.hid he
        rcases hcell with ⟨rfl, hkd⟩ | ⟨y, hk1, rfl, hkd, hkz, hkl, hwr, hkn, p0⟩
        · simp [notBehind] at h3
        have h3d : decide (id ≤ y.id) = true := by simpa [notBehind] using h3
        generalize y.id = yi at *
        clear he h3
        go_wp2_with (at_lookup; refine wpList_lookup_run _ rfl _ _ _ _ rfl _ _ _ rfl rfl HLK.out ?_)
        rw [HW1.out]
        go_quiet (fail)
        go_wp2_with fail
        go_ret
        exact ⟨ret_int (by rw [← HP.out, HS.out (by rw [HEE.out]; rfl), HEE.out]), HB.out _ (HBW.out _ (hqq _))⟩
      have hprev : (decide (0 < k) = false) ∨ (∃ yi : Int, (decide (id ≤ yi) = false) ∧ 1 ≤ k ∧ decide (0 < k) = true ∧ (1 : Int) ≤ (k : Int) ∧ (k : Int) - 1 < (cms.length : Int) ∧ IntKind.i64.wrap ((k : Int) - 1) = (k : Int) - 1 ∧ ((k : Int) - 1).toNat = k - 1 ∧ ∀ w1, Below (wr.heap.size + 1) W1 w1 → w1.cell? ⟨b', off + (k - 1) * 8, none⟩ = some (.int .i64 yi)) := by
        rcases hcell with ⟨rfl, hkd⟩ | ⟨y, hk1, rfl, hkd, hkz, hkl, hwr, hkn, p0⟩
        · exact .inl hkd
        · exact .inr ⟨y.id, by simpa [notBehind] using h3, hk1, hkd, hkz, hkl, hwr, hkn, p0⟩
      clear hcell h3
      rcases hcs with ⟨ht, he⟩ | ⟨ht, hcs⟩
      · have HEE := Lib.hid he
        rw [ht] at HLK
        clear he ht
        rcases hprev with hkd | ⟨yi, h3d, hk1, hkd, hkz, hkl, hwr, hkn, p0⟩
        all_goals
          go_wp2_with (at_lookup; refine wpList_lookup_run _ rfl _ _ _ _ rfl _ _ _ rfl rfl HLK.out ?_)
          rw [HW1.out]
          go_quiet (fail)
          go_wp2_with fail
          go_ret
          exact ⟨ret_int (by rw [← HP.out, HS.out (by rw [HEE.out]; rfl), HEE.out]), HB.out _ (hWq _)⟩
      rw [ht] at HLK
      clear ht
      rcases hcs with ⟨ha, he⟩ | ⟨rfl, hcs⟩
      · have HEE := Lib.hid he
        have HHA := Lib.hid ha
        clear he
        rcases hprev with hkd | ⟨yi, h3d, hk1, hkd, hkz, hkl, hwr, hkn, p0⟩
        all_goals
          go_wp2_with (at_lookup; refine wpList_lookup_run _ rfl _ _ _ _ rfl _ _ _ rfl rfl HLK.out ?_)
          rw [HW1.out]
          go_quiet (fail)
          go_wp2_with fail
          refine (HAQ.out _ (hqq _)).mono ?_
          rintro e w2 ⟨rfl, hb2⟩
          have hc2 := HT.out _ _ (hqq _) hb2
          have hd2 := HBW.out _ hc2
          clear hb2
          go_wp2_with fail
          go_ret
          exact ⟨ret_int (by rw [← HP.out, HS.out (by rw [HEE.out]; exact HHA.out), HEE.out]), HB.out _ hd2⟩
      rcases hcs with ⟨hnm, he⟩ | ⟨hnm, hcs⟩
      · have HEE := Lib.hid he
        rw [hnm] at HNM
        clear he hnm
        rcases hprev with hkd | ⟨yi, h3d, hk1, hkd, hkz, hkl, hwr, hkn, p0⟩
        all_goals
          go_wp2_with (at_lookup; refine wpList_lookup_run _ rfl _ _ _ _ rfl _ _ _ rfl rfl HLK.out ?_)
          rw [HW1.out]
          go_quiet (fail)
          go_wp2_with fail
          refine (HAQ.out _ (hqq _)).mono ?_
          rintro e w2 ⟨rfl, hb2⟩
          have hc2 := HT.out _ _ (hqq _) hb2
          have hd2 := HBW.out _ hc2
          clear hb2
          go_wp2_with fail
          refine (HNM.out _).mono ?_
          rintro e w3 ⟨rfl, rfl⟩
          go_wp2_with fail
          go_ret
          exact ⟨ret_int (by rw [← HP.out, HS.out (by rw [HEE.out]; rfl), HEE.out]), HB.out _ hd2⟩
      rw [hnm] at HNM
      clear hnm
      rcases hcs with ⟨hv, he⟩ | ⟨hv, hcs⟩
      · have HEE := Lib.hid he
        rw [hv] at HVL
        clear he hv
        rcases hprev with hkd | ⟨yi, h3d, hk1, hkd, hkz, hkl, hwr, hkn, p0⟩
        all_goals
          go_wp2_with (at_lookup; refine wpList_lookup_run _ rfl _ _ _ _ rfl _ _ _ rfl rfl HLK.out ?_)
          rw [HW1.out]
          go_quiet (fail)
          go_wp2_with fail
          refine (HAQ.out _ (hqq _)).mono ?_
          rintro e w2 ⟨rfl, hb2⟩
          have hc2 := HT.out _ _ (hqq _) hb2
          have hd2 := HBW.out _ hc2
          clear hb2
          go_wp2_with fail
          refine (HNM.out _).mono ?_
          rintro e w3 ⟨rfl, rfl⟩
          go_wp2_with fail
          refine (HVL.out _ hc2).mono ?_
          rintro e w4 ⟨rfl, hb4⟩
          have hc4 := HT.out _ _ hc2 hb4
          have hd4 := HBW.out _ hc4
          clear hb4
          go_wp2_with fail
          go_ret
          exact ⟨ret_int (by rw [← HP.out, HS.out (by rw [HEE.out]; rfl), HEE.out]), HB.out _ hd4⟩
      rw [hv] at HVL
      clear hv
      rcases hcs with ⟨hz, he⟩ | ⟨hz, ⟨hm, he⟩ | ⟨hm, he⟩⟩
      · have HEE := Lib.hid he
        have hz2 : text.toList.isEmpty = true := by simpa using hz
        clear he
        rcases hprev with hkd | ⟨yi, h3d, hk1, hkd, hkz, hkl, hwr, hkn, p0⟩
        all_goals
          go_wp2_with (at_lookup; refine wpList_lookup_run _ rfl _ _ _ _ rfl _ _ _ rfl rfl HLK.out ?_)
          rw [HW1.out]
          go_quiet (fail)
          go_wp2_with fail
          refine (HAQ.out _ (hqq _)).mono ?_
          rintro e w2 ⟨rfl, hb2⟩
          have hc2 := HT.out _ _ (hqq _) hb2
          have hd2 := HBW.out _ hc2
          clear hb2
          go_wp2_with fail
          refine (HNM.out _).mono ?_
          rintro e w3 ⟨rfl, rfl⟩
          go_wp2_with fail
          refine (HVL.out _ hc2).mono ?_
          rintro e w4 ⟨rfl, hb4⟩
          have hc4 := HT.out _ _ hc2 hb4
          have hd4 := HBW.out _ hc4
          clear hb4
          go_wp2_with fail
          go_ret
          exact ⟨ret_int (by rw [← HP.out, HS.out (by rw [HEE.out]; rfl), HEE.out]), HB.out _ hd4⟩
      · have HEE := Lib.hid he
        have hz2 : text.toList.isEmpty = false := by simpa using hz
        clear he
        rcases hprev with hkd | ⟨yi, h3d, hk1, hkd, hkz, hkl, hwr, hkn, p0⟩
        all_goals
          go_wp2_with (at_lookup; refine wpList_lookup_run _ rfl _ _ _ _ rfl _ _ _ rfl rfl HLK.out ?_)
          rw [HW1.out]
          go_quiet (fail)
          go_wp2_with fail
          refine (HAQ.out _ (hqq _)).mono ?_
          rintro e w2 ⟨rfl, hb2⟩
          have hc2 := HT.out _ _ (hqq _) hb2
          have hd2 := HBW.out _ hc2
          clear hb2
          go_wp2_with fail
          refine (HNM.out _).mono ?_
          rintro e w3 ⟨rfl, rfl⟩
          go_wp2_with fail
          refine (HVL.out _ hc2).mono ?_
          rintro e w4 ⟨rfl, hb4⟩
          have hc4 := HT.out _ _ hc2 hb4
          have hd4 := HBW.out _ hc4
          clear hb4
          go_wp2_with fail
          go_ret
          exact ⟨ret_int (by rw [← HP.out, HS.out (by rw [HEE.out]; rfl), HEE.out]), HB.out _ hd4⟩
      · have HEE := Lib.hid he
        have hz2 : text.toList.isEmpty = false := by simpa using hz
        clear he
        rcases hprev with hkd | ⟨yi, h3d, hk1, hkd, hkz, hkl, hwr, hkn, p0⟩
        all_goals
          go_wp2_with (at_lookup; refine wpList_lookup_run _ rfl _ _ _ _ rfl _ _ _ rfl rfl HLK.out ?_)
          rw [HW1.out]
          go_quiet (fail)
          go_wp2_with fail
          refine (HAQ.out _ (hqq _)).mono ?_
          rintro e w2 ⟨rfl, hb2⟩
          have hc2 := HT.out _ _ (hqq _) hb2
          have hd2 := HBW.out _ hc2
          clear hb2
          go_wp2_with fail
          refine (HNM.out _).mono ?_
          rintro e w3 ⟨rfl, rfl⟩
          go_wp2_with fail
          refine (HVL.out _ hc2).mono ?_
          rintro e w4 ⟨rfl, hb4⟩
          have hc4 := HT.out _ _ hc2 hb4
          have hd4 := HBW.out _ hc4
          clear hb4
          go_wp2_with fail
          go_roundw
          case rel => exact ⟨k + 1, by omega, by go_num, by rw [← HN.out HEE.out]; exact HP.out, hd4⟩
          case measure => simp [intOf]; omega
    · obtain rfl : k = cms.length := by omega
      rw [List.drop_length] at hp
      have HP := Lib.hid hp
      clear hp H0
      go_wp2_with fail
      go_ret
      exact ⟨ret_int (by rw [← HP.out]; cases aheadOf cms cms.length <;> rfl), HB.out _ hb⟩
end Go.Proofs.YtnlnmbcaongehaaGreatDoor
namespace Go.Proofs.YtnlnmbcaongehaaGreatDoor
open Go.RowKit
theorem comments_calls (d : Doc) (b n : Nat) (f : Int → Option Nat) (w : World) (hE : Env w) (hd : d.lies w) (hfd : d.fits) (hM : IMap w b n f) (hf : ∀ z i, f z = some i → i < d.evs.length) :
    Calls Tryz.prog 89 #[.agg d.enc.toArray, .map (some b)] w fun e w' => e = .returned (.int .i64 (cmsErr d.last f d.evs d.cms)) ∧ Below w.heap.size w w' := by
  by_cases hn : 64 < d.cms.length
  · exact comments_many d b f w hn
  · exact comments_few d b n f w hE hd hfd hM hf (by omega)
/-- Where the first k events lie, by their IDs. -/
def seenEv (evs : List Ev) : Nat → Int → Option Nat
  | 0 => fun _ => none
  | k + 1 => fun y => match evs[k]? with
    | none => seenEv evs k y
    | some x => if y = x.id then some k else seenEv evs k y
theorem seenEv_put (evs : List Ev) (k : Nat) (x : Ev) (h : evs[k]? = some x) : (fun y => if y = x.id then some k else seenEv evs k y) = seenEv evs (k + 1) := by
  funext y
  simp only [seenEv, h]
theorem seenEv_lt (evs : List Ev) : ∀ k z i, seenEv evs k z = some i → i < evs.length
  | 0, z, i, h => by simp [seenEv] at h
  | k + 1, z, i, h => by
    simp only [seenEv] at h
    split at h
    · exact seenEv_lt evs k z i h
    · rename_i x hx
      split at h
      · obtain rfl : k = i := by simpa using h
        exact (List.getElem?_eq_some_iff.1 hx).1
      · exact seenEv_lt evs k z i h
/-- Whether an event is not behind the one ahead of it. -/
def evLate (prev : Option Ev) (x : Ev) : Bool := match prev with
  | none => false
  | some p => !lessB p x
/-- The first error of an event among the others. -/
def evStep (regs : List Reg) (last : Int) (f : Int → Option Nat) (prev : Option Ev) (x : Ev) : Int :=
  if (evErr x regs != 0) = true then evErr x regs else if last < x.id then 2 else if evLate prev x = true then 8 else if (f x.id).isSome = true then 7 else 0
def evsGo (regs : List Reg) (last : Int) (evs : List Ev) (k : Nat) : Nat → Int
  | 0 => 0
  | n + 1 => match evs[k]? with
    | none => 0
    | some x => if (evStep regs last (seenEv evs k) (aheadOf evs k) x != 0) = true then evStep regs last (seenEv evs k) (aheadOf evs k) x else evsGo regs last evs (k + 1) n
/-- The error of the events from the k-th on, and then of the comments. -/
def restErr (regs : List Reg) (last : Int) (evs : List Ev) (cms : List Cm) (k : Nat) : Int :=
  if (evsGo regs last evs k (evs.length - k) != 0) = true then evsGo regs last evs k (evs.length - k) else cmsErr last (seenEv evs evs.length) evs cms
/-- The first error of a document. -/
def docErr (d : Doc) : Int := if (headErr d.title d.lang d.rate d.drop d.last != 0) = true then headErr d.title d.lang d.rate d.drop d.last else
  if (listErr d.regs != 0) = true then listErr d.regs else if 400 < d.evs.length then 9 else restErr d.regs d.last d.evs d.cms 0
theorem restErr_next (regs : List Reg) (last : Int) (evs : List Ev) (cms : List Cm) (k : Nat) (x : Ev) (h : evs[k]? = some x) (h0 : evStep regs last (seenEv evs k) (aheadOf evs k) x = 0) : restErr regs last evs cms k = restErr regs last evs cms (k + 1) := by
  have hk : k < evs.length := (List.getElem?_eq_some_iff.1 h).1
  unfold restErr
  rw [show evs.length - k = (evs.length - (k + 1)) + 1 by omega, evsGo, h]
  simp only [h0]
  rfl
theorem restErr_stop (regs : List Reg) (last : Int) (evs : List Ev) (cms : List Cm) (k : Nat) (x : Ev) (h : evs[k]? = some x) (E : Int) (h0 : evStep regs last (seenEv evs k) (aheadOf evs k) x = E) (hE : (E != 0) = true) : restErr regs last evs cms k = E := by
  have hk : k < evs.length := (List.getElem?_eq_some_iff.1 h).1
  unfold restErr
  rw [show evs.length - k = (evs.length - (k + 1)) + 1 by omega, evsGo, h]
  simp only [h0, if_pos hE]
theorem restErr_end (regs : List Reg) (last : Int) (evs : List Ev) (cms : List Cm) : restErr regs last evs cms evs.length = cmsErr last (seenEv evs evs.length) evs cms := by
  unfold restErr
  rw [Nat.sub_self]
  rfl
theorem evStep_cases (regs : List Reg) (last : Int) (f : Int → Option Nat) (prev : Option Ev) (x : Ev) (A : Int) (hA : evErr x regs = A) :
    ((A != 0) = true ∧ evStep regs last f prev x = A) ∨ (A = 0 ∧ ((last < x.id ∧ evStep regs last f prev x = 2) ∨ (x.id ≤ last ∧ ((evLate prev x = true ∧ evStep regs last f prev x = 8) ∨ (evLate prev x = false ∧
      (((f x.id).isSome = true ∧ evStep regs last f prev x = 7) ∨ ((f x.id).isSome = false ∧ evStep regs last f prev x = 0))))))) := by
  unfold evStep
  rw [hA]
  by_cases h0 : A = 0
  · subst h0
    right
    refine ⟨rfl, ?_⟩
    rw [if_neg (by decide)]
    by_cases h1 : last < x.id
    · left; rw [if_pos h1]; exact ⟨h1, rfl⟩
    · right
      refine ⟨by omega, ?_⟩
      rw [if_neg h1]
      cases h2 : evLate prev x <;> cases h3 : (f x.id).isSome <;> simp
  · left
    have h0' : (A != 0) = true := by simpa using h0
    rw [if_pos h0']
    exact ⟨h0', rfl⟩
/-- A store into a map at the operation. -/
theorem wpList_put {ops : Array Oper} {rest : List Oper} {o : Oper} {a : Act} {Q : Exit → Act → World → Prop} (w : World) (hg : o.guard = none) (m x v : Operand) (hop : o.op = Op.mapUpdate 154 m x v)
    (b n : Nat) (f : Int → Option Nat) (hM : IMap w b n f) (hm : a.eval m = .map (some b)) (z : Int) (hz : i64 z) (hx : a.eval x = .int .i64 z) (val : Nat) (hv : a.eval v = .int .i64 val) (hi : i64 val) (hn : n < maxLen)
    (hK : ∀ w', IMap w' b (n + 1) (fun y => if y = z then some val else f y) → w.grownBy w' (some b) → wpList Tryz.prog ops Q rest (a.put o.dst undef) w') : wpList Tryz.prog ops Q (o :: rest) a w := by
  refine wpList_plain hg fun K' hK' => ?_
  obtain ⟨w', hrun, r1, r2⟩ := hM.put hz hn val hi
  unfold Oper.wp
  simp [execOp, hop, hm, hx, hv, hrun, Result.andThen]
  exact hK' _ _ (hK w' r1 r2)
theorem IMap.drewN {w : World} {b n : Nat} {f : Int → Option Nat} (h : IMap w b n f) (q : Nat) : IMap (w.drewN q) b n f := h.below (below_drewN (Below.refl w.heap.size _) q) h.lt
def ChkRel (evs : List Ev) (B : Nat) (W0 : World) (mb k : Nat) (wr : World) : Prop := IMap wr mb k (seenEv evs k) ∧ Below B W0 wr
set_option maxRecDepth 100000 in
set_option maxHeartbeats 6400000 in
theorem docCheck_calls (d : Doc) (w : World) (hE : Env w) (hd : d.lies w) (hfd : d.fits) :
    Calls Tryz.prog 30 #[.agg d.enc.toArray] w fun e w' => e = .returned (.int .i64 (docErr d)) ∧ Below w.heap.size w w' := by
  have HCM := Lib.hid (fun (b : Nat) (w1 : World) (h1 : Env w1) (h2 : d.lies w1) (h4 : IMap w1 b d.evs.length (seenEv d.evs d.evs.length)) => comments_calls d b _ _ w1 h1 h2 hfd h4 (seenEv_lt d.evs d.evs.length))
  have HLIE := Lib.hid hd
  have HHD := Lib.hid (fun (w1 : World) (h1 : Env w1) => header_calls d.title d.lang d.rate d.drop d.last d.ra d.ea d.ca d.regs.length d.evs.length d.cms.length d.rc d.ec d.cc w1 h1 hfd.1 hfd.2.1 hfd.2.2.1 hfd.2.2.2.1)
  have HLS := Lib.hid (fun (w1 : World) (h1 : Regs w1 d.ra d.regs) => list_calls d.ra d.rc d.regs w1 h1 hfd.2.2.2.2.2.1)
  have HCK0 := Lib.hid (fun (x : Ev) (w1 : World) (h1 : Env w1) (h2 : x.lies w1) (h3 : x.fits) (h4 : Regs w1 d.ra d.regs) => evCheck_calls x d.ra d.rc d.regs w1 h1 h2 h3 h4 hfd.2.2.2.2.2.1 hfd.2.2.2.2.2.2.1)
  obtain ⟨_, _, _, _, hi5, hfr, hlr, hfe, hle, _, _⟩ := hfd
  generalize hG : docErr d = G
  unfold docErr at hG
  obtain ⟨title, lang, rate, drop, last, ra, rc, regs, ea, ec, evs, ca, cc, cms⟩ := d
  obtain ⟨hdr, hde, _⟩ := hd
  simp only at hde hdr hi5 hfr hlr hfe hle hG
  simp only [Doc.enc] at HCM HHD HLS HCK0 ⊢
  have HCME := Lib.hid (restErr_end regs last evs cms)
  generalize hHE : headErr title lang rate drop last = HE at *
  generalize hLE : listErr regs = LE at *
  generalize hds : #[Value.string title, .string lang, .int .u8 rate, .bool drop, .int .i64 last, .slice ra regs.length rc, .slice ea evs.length ec, .slice ca cms.length cc] = ds at HCM HHD ⊢
  have f0 := box_cell w ds 27 0 (.string title) (by rw [← hds]; rfl)
  have f1 := box_cell w ds 27 1 (.string lang) (by rw [← hds]; rfl)
  have f2 := box_cell w ds 27 2 (.int .u8 rate) (by rw [← hds]; rfl)
  have f3 := box_cell w ds 27 3 (.bool drop) (by rw [← hds]; rfl)
  have f4 := box_cell w ds 27 4 (.int .i64 last) (by rw [← hds]; rfl)
  have f5 := box_cell w ds 27 5 (.slice ra regs.length rc) (by rw [← hds]; rfl)
  have f6 := box_cell w ds 27 6 (.slice ea evs.length ec) (by rw [← hds]; rfl)
  have f7 := box_cell w ds 27 7 (.slice ca cms.length cc) (by rw [← hds]; rfl)
  have HB := Lib.hid (fun (w1 : World) (h : Below (w.heap.size + 1) (w.alloc (.cells ds 27)) w1) => box_below h)
  have hb0 : Below (w.heap.size + 1) (w.alloc (.cells ds 27)) (w.alloc (.cells ds 27)) := Below.refl _ _
  have hsz : (w.alloc (.cells ds 27)).heap.size = w.heap.size + 1 := World.size_alloc _ _
  generalize hW0 : w.alloc (.cells ds 27) = W0 at *
  have HW0 := Lib.hid hW0
  have HSZ := Lib.hid hsz
  have HT0 := Lib.hid (fun (w2 w3 : World) (h : Below (w.heap.size + 1) W0 w2) (h3 : Below w2.heap.size w2 w3) => h.trans (h3.mono (by have := h.size; rw [hsz] at this; exact this)))
  have HFE := Lib.hid hfe
  have HDE := Lib.hid hde
  have HDR := Lib.hid hdr
  have HG := Lib.hid hG
  have hmm := @run_makeMap Tryz.prog
  clear hW0 hsz hfe hG hde hdr hHE hLE hfr
  rcases (show (HE != 0) = true ∨ (HE = 0 ∧ ((LE != 0) = true ∨ (LE = 0 ∧ (400 < evs.length ∨ evs.length ≤ 400)))) by
    by_cases h1 : HE = 0 <;> by_cases h2 : LE = 0 <;> simp [h1, h2] <;> omega) with h1 | ⟨rfl, h2 | ⟨rfl, h3⟩⟩
  · have HV := Lib.hid (show HE = G by rw [← HG.out, if_pos h1])
    have H1 := Lib.hid h1
    clear HG h1
    have h1 := H1.out
    go_enter Tryz.func30, Tryz.ntmps30
    subst hds
    go_wp2_with fail
    rw [HW0.out]
    refine (HHD.out _ (hE.below (HB.out _ hb0) (Nat.le_refl _))).mono ?_
    rintro e w1 ⟨rfl, hb1⟩
    have hc1 := HT0.out _ _ hb0 hb1
    go_wp2_with fail
    go_ret
    exact ⟨ret_int HV.out, HB.out _ hc1⟩
  · have HV := Lib.hid (show LE = G by rw [← HG.out, if_neg (by decide), if_pos h2])
    clear HG
    go_enter Tryz.func30, Tryz.ntmps30
    subst hds
    go_wp2_with fail
    rw [HW0.out]
    refine (HHD.out _ (hE.below (HB.out _ hb0) (Nat.le_refl _))).mono ?_
    rintro e w1 ⟨rfl, hb1⟩
    have hc1 := HT0.out _ _ hb0 hb1
    clear hb1
    go_wp2_with fail
    refine (HLS.out _ (HDR.out.later (HB.out _ hc1))).mono ?_
    rintro e w2 ⟨rfl, hb2⟩
    have hc2 := HT0.out _ _ hc1 hb2
    clear hb2
    go_wp2_with fail
    go_ret
    exact ⟨ret_int HV.out, HB.out _ hc2⟩
  · rcases h3 with h3 | h3
    all_goals
      go_enter Tryz.func30, Tryz.ntmps30
      subst hds
      go_wp2_with fail
      rw [HW0.out]
      refine (HHD.out _ (hE.below (HB.out _ hb0) (Nat.le_refl _))).mono ?_
      rintro e w1 ⟨rfl, hb1⟩
      have hc1 := HT0.out _ _ hb0 hb1
      clear hb1
      go_wp2_with fail
      refine (HLS.out _ (HDR.out.later (HB.out _ hc1))).mono ?_
      rintro e w2 ⟨rfl, hb2⟩
      have hc2 := HT0.out _ _ hc1 hb2
      clear hb2
    · have HV := Lib.hid (show 9 = G by rw [← HG.out, if_neg (by decide), if_neg (by decide), if_pos h3])
      have h3d : decide ((400 : Int) < (evs.length : Int)) = true := by simp; omega
      go_wp2_with fail
      go_ret
      exact ⟨ret_int HV.out, HB.out _ hc2⟩
    · have h3d : decide ((400 : Int) < (evs.length : Int)) = false := by simp; omega
      have HV := Lib.hid (show restErr regs last evs cms 0 = G by rw [← HG.out, if_neg (by decide), if_neg (by decide), if_neg (by omega)])
      have hz2 := hc2.size
      rw [HSZ.out] at hz2
      have hbm : Below (w.heap.size + 1) W0 (w2.alloc (.map #[] 0)) := hc2.alloc hz2 _
      have hm0 := Lib.hid (IMap.made w2)
      clear HG HHD HLS
      go_wp2_with fail
      generalize w2.heap.size = mb at *
      go_loopw [30] (fun i wr => ∃ k : Nat, k ≤ evs.length ∧ i = .int .i64 k ∧ restErr regs last evs cms k = G ∧ ChkRel evs (w.heap.size + 1) W0 mb k wr) (fun i _ => evs.length - (intOf i).toNat)
      case atStart => exact ⟨0, by omega, rfl, HV.out, hm0.out, hbm⟩
      case round =>
        obtain ⟨k, hk, rfl, hp, hM, hb⟩ := hrel
        have hbw := HB.out _ hb
        clear hbm hm0 HV hc1 hc2 hmm
        by_cases hlt : k < evs.length
        · obtain ⟨b, off, x, rfl, hbl, hx, hc, hok⟩ := (HDE.out.later hbw).at_ hlt
          have hft := HFE.out x (List.mem_of_getElem? hx)
          have hRr := HDE.out.later hbw
          have hpv : (k = 0 ∧ aheadOf evs k = none) ∨ (∃ y : Ev, 1 ≤ k ∧ aheadOf evs k = some y ∧ ∀ j v, y.enc[j]? = some v → ∀ w1, Below wr.heap.size wr w1 → w1.cell? ⟨b, off + (k - 1) * 7 + j, none⟩ = some v) := by
            rcases Nat.eq_zero_or_pos k with rfl | hk0
            · exact .inl ⟨rfl, rfl⟩
            · obtain ⟨b'', off', y, hab, _, hy, hcy, _⟩ := hRr.at_ (show k - 1 < evs.length by omega)
              simp only [Option.some.injEq, Addr.mk.injEq, and_true] at hab
              obtain ⟨rfl, rfl⟩ := hab
              refine .inr ⟨y, hk0, ?_, fun j v hv w1 h => ?_⟩
              · obtain ⟨j, rfl⟩ : ∃ j, k = j + 1 := ⟨k - 1, by omega⟩
                simpa [aheadOf] using hy
              · rw [h.cell (p := ⟨b, off + (k - 1) * 7 + j, none⟩) hbl]
                exact hcy j v hv
          have hwsz := hb.size
          rw [HSZ.out] at hwsz
          have HN := Lib.hid (restErr_next regs last evs cms k x hx)
          have HS := Lib.hid (restErr_stop regs last evs cms k x hx)
          have HPT := Lib.hid (seenEv_put evs k x hx)
          have HP := Lib.hid hp
          have hcs := evStep_cases regs last (seenEv evs k) (aheadOf evs k) x _ rfl
          have hgx := fun j v h => box_cell wr x.enc.toArray 50 j v h
          have HBW := Lib.hid (fun w1 (h : Below (wr.heap.size + 1) (wr.alloc (.cells x.enc.toArray 50)) w1) => (hb.alloc hwsz _).trans (h.mono (by omega)))
          have HBR := Lib.hid (fun w1 (h : Below (wr.heap.size + 1) (wr.alloc (.cells x.enc.toArray 50)) w1) => (((Below.refl wr.heap.size wr).alloc (Nat.le_refl _) _).trans (h.mono (by omega))))
          have hq0 : Below (wr.heap.size + 1) (wr.alloc (.cells x.enc.toArray 50)) (wr.alloc (.cells x.enc.toArray 50)) := Below.refl _ _
          have hbLit := hb.alloc hwsz (.cells x.enc.toArray 50)
          have HMM := Lib.hid (fun w1 (h : Below (wr.heap.size + 1) (wr.alloc (.cells x.enc.toArray 50)) w1) => hM.below (HBR.out _ h) hM.lt)
          have HLK := Lib.hid (fun w1 (h : Below (wr.heap.size + 1) (wr.alloc (.cells x.enc.toArray 50)) w1) => (HMM.out w1 h).look hft.1)
          have HCK := Lib.hid (fun w1 (h : Below (wr.heap.size + 1) (wr.alloc (.cells x.enc.toArray 50)) w1) => HCK0.out x w1 (hE.below (HB.out _ (HBW.out _ h)) (Nat.le_refl _)) (Ev.keeps _ _ _ (HBR.out _ h) hok) hft (HDR.out.later (HB.out _ (HBW.out _ h))))
          have HLE0 := Lib.hid (fun (y : Ev) w1 => less_calls y x w1)
          have HID := Lib.hid hft.1
          have hmlt := hM.lt
          have hLT : ∀ y, evLate (some y) x = !lessB y x := fun y => rfl
          have hLN : evLate none x = false := rfl
          generalize aheadOf evs k = pv at *
          generalize hEE0 : evStep regs last (seenEv evs k) pv x = E at *
          generalize evErr x regs = A at *
          generalize hLT0 : evLate pv x = LT at *
          obtain ⟨xid, xin, xout, xreg, xkind, xsp, xa, xc, xrows⟩ := x
          have d0 := hc 0 _ rfl; have d1 := hc 1 _ rfl; have d2 := hc 2 _ rfl; have d3 := hc 3 _ rfl; have d4 := hc 4 _ rfl; have d5 := hc 5 _ rfl; have d6 := hc 6 _ rfl
          have g0 := hgx 0 _ rfl; have g1 := hgx 1 _ rfl; have g2 := hgx 2 _ rfl; have g3 := hgx 3 _ rfl; have g4 := hgx 4 _ rfl; have g5 := hgx 5 _ rfl; have g6 := hgx 6 _ rfl
          simp only [Nat.add_zero, Ev.enc] at d0 d1 d2 d3 d4 d5 d6 g0 g1 g2 g3 g4 g5 g6 HBW HBR hq0 HLK HCK hcs HLE0 HID hbLit HMM HPT
          have hsz1 : (wr.alloc (.cells #[.int .i64 xid, .int .i64 xin, .int .i64 xout, .string xreg, .int .u8 xkind, .string xsp, .slice xa xrows.length xc] 50)).heap.size = wr.heap.size + 1 := World.size_alloc _ _
          generalize hW1 : wr.alloc (.cells #[.int .i64 xid, .int .i64 xin, .int .i64 xout, .string xreg, .int .u8 xkind, .string xsp, .slice xa xrows.length xc] 50) = W1 at g0 g1 g2 g3 g4 g5 g6 HBW HBR hq0 HLK HCK hsz1 HMM
          have HW1 := Lib.hid hW1
          have HSZ1 := Lib.hid hsz1
          have hWb := HBW.out _ hq0
          have HT := Lib.hid (fun (w2 w3 : World) (h : Below (wr.heap.size + 1) W1 w2) (h3 : Below w2.heap.size w2 w3) => h.trans (h3.mono (by have := h.size; rw [HSZ1.out] at this; exact this)))
          have hprev : (LT = false ∧ decide (0 < k) = false) ∨ (∃ y : Ev, LT = (!lessB y ⟨xid, xin, xout, xreg, xkind, xsp, xa, xc, xrows⟩) ∧ 1 ≤ k ∧ decide (0 < k) = true ∧ (1 : Int) ≤ (k : Int) ∧ (k : Int) - 1 < (evs.length : Int) ∧ IntKind.i64.wrap ((k : Int) - 1) = (k : Int) - 1 ∧ ((k : Int) - 1).toNat = k - 1 ∧ ∀ j v, y.enc[j]? = some v → ∀ w1, Below (wr.heap.size + 1) W1 w1 → w1.cell? ⟨b, off + (k - 1) * 7 + j, none⟩ = some v) := by
            rcases hpv with ⟨h1, rfl⟩ | ⟨y, h1, rfl, h3⟩
            · exact .inl ⟨hLT0.symm.trans hLN, by simp; omega⟩
            · exact .inr ⟨y, hLT0.symm.trans (hLT y), h1, by simp; omega, by omega, by omega, IntWalk.i64_in _ (by omega), by omega, fun j v hv w1 h => h3 j v hv w1 (HBR.out _ h)⟩
          clear hEE0
          clear hpv hc hgx hW1 hsz1 hRr hp hx hft hok hLT hLN hLT0 HCME HCM hM
          rcases hcs with ⟨hA, he⟩ | ⟨rfl, hcs⟩
          · have HEE := Lib.hid he
            clear he hprev
            have HAA := Lib.hid hA
            go_wp2_with fail
            rw [HW1.out]
            refine (HCK.out _ hq0).mono ?_
            rintro e w3 ⟨rfl, hb3⟩
            have hc3 := HT.out _ _ hq0 hb3
            have hd3 := HBW.out _ hc3
            have hr3 := HBR.out _ hc3
            clear hb3
            go_wp2_with fail
            go_ret
            exact ⟨ret_int (by rw [← HP.out, HS.out _ HEE.out HAA.out]), HB.out _ hd3⟩
          rcases hcs with ⟨h1, he⟩ | ⟨h1, hcs⟩
          · have HEE := Lib.hid he
            clear he hprev
            go_wp2_with fail
            rw [HW1.out]
            refine (HCK.out _ hq0).mono ?_
            rintro e w3 ⟨rfl, hb3⟩
            have hc3 := HT.out _ _ hq0 hb3
            have hd3 := HBW.out _ hc3
            have hr3 := HBR.out _ hc3
            clear hb3
            go_wp2_with (at_lookup; refine wpList_lookup_run _ rfl _ _ _ _ rfl _ _ _ rfl rfl (HLK.out _ hc3) ?_)
            go_ret
            exact ⟨ret_int (by rw [← HP.out, HS.out _ HEE.out rfl]), HB.out _ hd3⟩
          rcases hprev with ⟨rfl, hkd⟩ | ⟨y, hly, hk1, hkd, hkz, hkl, hwr, hkn, hpy⟩
          · rcases hcs with ⟨h2, he⟩ | ⟨_, ⟨ht, he⟩ | ⟨ht, he⟩⟩
            · cases h2
            · have HEE := Lib.hid he
              rw [ht] at HLK
              clear he ht
              go_wp2_with fail
              rw [HW1.out]
              refine (HCK.out _ hq0).mono ?_
              rintro e w3 ⟨rfl, hb3⟩
              have hc3 := HT.out _ _ hq0 hb3
              have hd3 := HBW.out _ hc3
              have hr3 := HBR.out _ hc3
              clear hb3
              go_wp2_with (at_lookup; refine wpList_lookup_run _ rfl _ _ _ _ rfl _ _ _ rfl rfl (HLK.out _ hc3) ?_)
              go_quiet (fail)
              go_wp2_with fail
              go_ret
              exact ⟨ret_int (by rw [← HP.out, HS.out _ HEE.out rfl]), HB.out _ (below_drewN hd3 _)⟩
            · have HEE := Lib.hid he
              rw [ht] at HLK
              clear he ht
              go_wp2_with fail
              rw [HW1.out]
              refine (HCK.out _ hq0).mono ?_
              rintro e w3 ⟨rfl, hb3⟩
              have hc3 := HT.out _ _ hq0 hb3
              have hd3 := HBW.out _ hc3
              have hr3 := HBR.out _ hc3
              clear hb3
              go_wp2_with (at_lookup; refine wpList_lookup_run _ rfl _ _ _ _ rfl _ _ _ rfl rfl (HLK.out _ hc3) ?_)
              have HM3 := Lib.hid (fun q => (HMM.out _ hc3).drewN q)
              go_quiet (fail)
              go_wp2_with (at_mapUpdate; refine wpList_put _ rfl _ _ _ rfl mb k _ (HM3.out _) rfl xid HID.out rfl k rfl (by constructor <;> omega) (by unfold maxLen; omega) ?_; intro w5 hM5 hg5)
              have hM6 := hM5
              rw [HPT.out] at hM6
              have hb6 := (below_drewN hd3 _).grown hg5 (by have := hd3.size; rw [HSZ.out] at this; simp; omega) (fun j hj => by simp at hj; omega)
              clear hM5 hg5
              go_wp2_with fail
              go_roundw
              case rel => exact ⟨k + 1, by omega, by go_num, by rw [← HN.out HEE.out]; exact HP.out, hM6, hb6⟩
              case measure => simp [intOf]; omega
          · have HPY := Lib.hid hpy
            have HLE := Lib.hid (fun w1 => HLE0.out y w1)
            obtain ⟨yid, yin, yout, yreg, ykind, ysp, ya, yc, yrows⟩ := y
            simp only [Ev.enc] at HPY HLE
            clear hpy HLE0
            generalize lessB ⟨yid, yin, yout, yreg, ykind, ysp, ya, yc, yrows⟩ ⟨xid, xin, xout, xreg, xkind, xsp, xa, xc, xrows⟩ = LS at *
            subst hly
            rcases hcs with ⟨h2, he⟩ | ⟨h2, ⟨ht, he⟩ | ⟨ht, he⟩⟩
            · have HEE := Lib.hid he
              obtain rfl : LS = false := by simpa using h2
              clear he h2
              go_wp2_with fail
              rw [HW1.out]
              refine (HCK.out _ hq0).mono ?_
              rintro e w3 ⟨rfl, hb3⟩
              have hc3 := HT.out _ _ hq0 hb3
              have hd3 := HBW.out _ hc3
              have hr3 := HBR.out _ hc3
              clear hb3
              go_wp2_with (at_lookup; refine wpList_lookup_run _ rfl _ _ _ _ rfl _ _ _ rfl rfl (HLK.out _ hc3) ?_)
              have hc3d : Below (wr.heap.size + 1) W1 w3.drew := hc3.drew
              have hd3d : Below (w.heap.size + 1) W0 w3.drew := hd3.drew
              have p0 := HPY.out 0 _ rfl; have p1 := HPY.out 1 _ rfl; have p2 := HPY.out 2 _ rfl; have p3 := HPY.out 3 _ rfl; have p4 := HPY.out 4 _ rfl; have p5 := HPY.out 5 _ rfl; have p6 := HPY.out 6 _ rfl
              simp only [Nat.add_zero] at p0
              go_region_with (go_at_call 88; refine (HLE.out _).mono ?_; rintro e w4 ⟨rfl, hb4⟩; have hc4 := HT.out _ _ hc3d hb4; have hd4 := HBW.out _ hc4; clear hb4)
              all_goals
                go_wp2_with fail
                go_ret
                exact ⟨ret_int (by rw [← HP.out, HS.out _ HEE.out rfl]), HB.out _ hd4⟩
            · have HEE := Lib.hid he
              obtain rfl : LS = true := by simpa using h2
              rw [ht] at HLK
              clear he h2 ht
              go_wp2_with fail
              rw [HW1.out]
              refine (HCK.out _ hq0).mono ?_
              rintro e w3 ⟨rfl, hb3⟩
              have hc3 := HT.out _ _ hq0 hb3
              have hd3 := HBW.out _ hc3
              have hr3 := HBR.out _ hc3
              clear hb3
              go_wp2_with (at_lookup; refine wpList_lookup_run _ rfl _ _ _ _ rfl _ _ _ rfl rfl (HLK.out _ hc3) ?_)
              have hc3d : Below (wr.heap.size + 1) W1 w3.drew := hc3.drew
              have hd3d : Below (w.heap.size + 1) W0 w3.drew := hd3.drew
              have p0 := HPY.out 0 _ rfl; have p1 := HPY.out 1 _ rfl; have p2 := HPY.out 2 _ rfl; have p3 := HPY.out 3 _ rfl; have p4 := HPY.out 4 _ rfl; have p5 := HPY.out 5 _ rfl; have p6 := HPY.out 6 _ rfl
              simp only [Nat.add_zero] at p0
              go_region_with (go_at_call 88; refine (HLE.out _).mono ?_; rintro e w4 ⟨rfl, hb4⟩; have hc4 := HT.out _ _ hc3d hb4; have hd4 := HBW.out _ hc4; clear hb4)
              all_goals
                go_wp2_with fail
                go_ret
                exact ⟨ret_int (by rw [← HP.out, HS.out _ HEE.out rfl]), HB.out _ hd4⟩
            · have HEE := Lib.hid he
              obtain rfl : LS = true := by simpa using h2
              rw [ht] at HLK
              clear he h2 ht
              go_wp2_with fail
              rw [HW1.out]
              refine (HCK.out _ hq0).mono ?_
              rintro e w3 ⟨rfl, hb3⟩
              have hc3 := HT.out _ _ hq0 hb3
              have hd3 := HBW.out _ hc3
              have hr3 := HBR.out _ hc3
              clear hb3
              go_wp2_with (at_lookup; refine wpList_lookup_run _ rfl _ _ _ _ rfl _ _ _ rfl rfl (HLK.out _ hc3) ?_)
              have hc3d : Below (wr.heap.size + 1) W1 w3.drew := hc3.drew
              have hd3d : Below (w.heap.size + 1) W0 w3.drew := hd3.drew
              have p0 := HPY.out 0 _ rfl; have p1 := HPY.out 1 _ rfl; have p2 := HPY.out 2 _ rfl; have p3 := HPY.out 3 _ rfl; have p4 := HPY.out 4 _ rfl; have p5 := HPY.out 5 _ rfl; have p6 := HPY.out 6 _ rfl
              simp only [Nat.add_zero] at p0
              go_region_with (go_at_call 88; refine (HLE.out _).mono ?_; rintro e w4 ⟨rfl, hb4⟩; have hc4 := HT.out _ _ hc3d hb4; have hd4 := HBW.out _ hc4; clear hb4)
              all_goals
                go_wp2_with (at_mapUpdate; refine wpList_put _ rfl _ _ _ rfl mb k _ (HMM.out _ hc4) rfl xid HID.out rfl k rfl (by constructor <;> omega) (by unfold maxLen; omega) ?_; intro w5 hM5 hg5)
                have hM6 := hM5
                rw [HPT.out] at hM6
                have hb6 := hd4.grown hg5 (by have := hd4.size; rw [HSZ.out] at this; omega) (fun j hj => by simp at hj; omega)
                clear hM5 hg5
                go_wp2_with fail
                go_roundw
                case rel => exact ⟨k + 1, by omega, by go_num, by rw [← HN.out HEE.out]; exact HP.out, hM6, hb6⟩
                case measure => simp [intOf]; omega
        · obtain rfl : k = evs.length := by omega
          rw [HCME.out] at hp
          have HC := HCM.out mb wr (hE.below hbw (Nat.le_refl _)) (Doc.later HLIE.out hbw) hM
          rw [hp] at HC
          have HCC := Lib.hid HC
          clear hp HC HCM
          go_wp2_with fail
          refine HCC.out.mono ?_
          rintro e w5 ⟨rfl, hb5⟩
          have hc5 := HT0.out _ _ hb hb5
          go_wp2_with fail
          go_ret
          exact ⟨rfl, HB.out _ hc5⟩
end Go.Proofs.YtnlnmbcaongehaaGreatDoor
namespace Go.Proofs.YtnlnmbcaongehaaGreatDoor
open Go.RowKit
attribute [local go_sem ↓] Go.wp_at_zero Go.wp_at_succ
/-- The changes from one document to another; ks, es, cs: the keys of both. -/
def chgsOf (a b : Doc) (ks : List ByteArray) (es cs : List Int) : List ChgC := chgHead a.hd b.hd ++ (ks.flatMap (chgReg a.regs b.regs) ++ (es.flatMap (chgEv a.evs b.evs) ++ cs.flatMap (chgCm a.cms b.cms)))
def regKeys (a b : Doc) : List ByteArray := (Lib.compact (sortS ((a.regs ++ b.regs).map (fun x : Reg => x.name.data.toList)))).map (fun l => ⟨l.toArray⟩)
def evKeys (a b : Doc) : List Int := Lib.compact (sortI ((a.evs ++ b.evs).map (fun x : Ev => x.id)))
def cmKeys (a b : Doc) : List Int := Lib.compact (sortI ((a.cms ++ b.cms).map (fun x : Cm => x.id)))
def chgs (a b : Doc) : List ChgC := chgsOf a b (regKeys a b) (evKeys a b) (cmKeys a b)
/-- The error, or the changes in memory of the call's own. -/
def DiffPost (a b : Doc) (w : World) (e : Ending) (w' : World) : Prop :=
  if docErr a ≠ 0 then e = .returned (.tuple #[.slice none 0 0, .int .i64 (docErr a)]) ∧ Below w.heap.size w w'
  else if docErr b ≠ 0 then e = .returned (.tuple #[.slice none 0 0, .int .i64 (docErr b)]) ∧ Below w.heap.size w w'
  else ∃ v xs, e = .returned (.tuple #[v, .int .i64 0]) ∧ GrowChg w.heap.size w v xs w' ∧ xs.map Chg.c = chgs a b
set_option maxRecDepth 100000 in
set_option maxHeartbeats 12800000 in
theorem diff_errA (a b : Doc) (w : World) (hE : Env w) (ha : a.lies w) (hb : b.lies w) (hfa : a.fits) (hfb : b.fits) (h0 : ¬ docErr a = 0) :
    Calls Tryz.prog 11 #[.agg a.enc.toArray, .agg b.enc.toArray] w (DiffPost a b w) := by
  have HQ := Lib.hid (fun (w' : World) (h : Below w.heap.size w w') => (show DiffPost a b w (.returned (.tuple #[.slice none 0 0, .int .i64 (docErr a)])) w' from by
    unfold DiffPost
    rw [if_pos h0]
    exact ⟨rfl, h⟩))
  have h0b : (docErr a != 0) = true := by simpa using h0
  have HCA := Lib.hid (fun (w1 : World) (h : Below w.heap.size w w1) => docCheck_calls a w1 (hE.below h (Nat.le_refl _)) (Doc.later ha h) hfa)
  have HCB := Lib.hid (fun (w1 : World) (h : Below w.heap.size w w1) => docCheck_calls b w1 (hE.below h (Nat.le_refl _)) (Doc.later hb h) hfb)

  generalize docErr a = E at *
  generalize docErr b = E' at *
  generalize DiffPost a b w = Q at *
  obtain ⟨title, lang, rate, drop, last, ra, rc, regs, ea, ec, evs, ca, cc, cms⟩ := a
  obtain ⟨title', lang', rate', drop', last', ra', rc', regs', ea', ec', evs', ca', cc', cms'⟩ := b
  simp only [Doc.enc] at *
  generalize hds : #[Value.string title, .string lang, .int .u8 rate, .bool drop, .int .i64 last, .slice ra regs.length rc, .slice ea evs.length ec, .slice ca cms.length cc] = ds
  generalize hqs : #[Value.string title', .string lang', .int .u8 rate', .bool drop', .int .i64 last', .slice ra' regs'.length rc', .slice ea' evs'.length ec', .slice ca' cms'.length cc'] = qs
  have f0 := box2_fst w ds qs 27 27 0 (.string title) (by rw [← hds]; rfl)
  have f1 := box2_fst w ds qs 27 27 1 (.string lang) (by rw [← hds]; rfl)
  have f2 := box2_fst w ds qs 27 27 2 (.int .u8 rate) (by rw [← hds]; rfl)
  have f3 := box2_fst w ds qs 27 27 3 (.bool drop) (by rw [← hds]; rfl)
  have f4 := box2_fst w ds qs 27 27 4 (.int .i64 last) (by rw [← hds]; rfl)
  have f5 := box2_fst w ds qs 27 27 5 (.slice ra regs.length rc) (by rw [← hds]; rfl)
  have f6 := box2_fst w ds qs 27 27 6 (.slice ea evs.length ec) (by rw [← hds]; rfl)
  have f7 := box2_fst w ds qs 27 27 7 (.slice ca cms.length cc) (by rw [← hds]; rfl)
  have g0 := box2_snd w ds qs 27 27 0 (.string title') (by rw [← hqs]; rfl)
  have g1 := box2_snd w ds qs 27 27 1 (.string lang') (by rw [← hqs]; rfl)
  have g2 := box2_snd w ds qs 27 27 2 (.int .u8 rate') (by rw [← hqs]; rfl)
  have g3 := box2_snd w ds qs 27 27 3 (.bool drop') (by rw [← hqs]; rfl)
  have g4 := box2_snd w ds qs 27 27 4 (.int .i64 last') (by rw [← hqs]; rfl)
  have g5 := box2_snd w ds qs 27 27 5 (.slice ra' regs'.length rc') (by rw [← hqs]; rfl)
  have g6 := box2_snd w ds qs 27 27 6 (.slice ea' evs'.length ec') (by rw [← hqs]; rfl)
  have g7 := box2_snd w ds qs 27 27 7 (.slice ca' cms'.length cc') (by rw [← hqs]; rfl)
  have HB := Lib.hid (fun (w1 : World) (h : Below (w.heap.size + 2) ((w.alloc (.cells ds 27)).alloc (.cells qs 27)) w1) => box2_below h)
  have hb0 : Below (w.heap.size + 2) ((w.alloc (.cells ds 27)).alloc (.cells qs 27)) ((w.alloc (.cells ds 27)).alloc (.cells qs 27)) := Below.refl _ _
  have hsz : ((w.alloc (.cells ds 27)).alloc (.cells qs 27)).heap.size = w.heap.size + 2 := by simp
  generalize hW0 : (w.alloc (.cells ds 27)).alloc (.cells qs 27) = W0 at *
  have HW0 := Lib.hid hW0
  have HSZ := Lib.hid hsz
  have HT0 := Lib.hid (fun (w2 w3 : World) (h : Below (w.heap.size + 2) W0 w2) (h3 : Below w2.heap.size w2 w3) => (h.trans (h3.mono (by have := h.size; rw [HSZ.out] at this; exact this)) : Below (w.heap.size + 2) W0 w3))
  have HLT := Lib.hid (fun (w2 : World) (h : Below (w.heap.size + 2) W0 w2) => (show w.heap.size + 2 ≤ w2.heap.size by have := h.size; rw [HSZ.out] at this; exact this))
  have HKS := Lib.hid (fun (o o' : Array Value) (w1 : World) (h : Below ((W0.alloc (.cells o 27)).alloc (.cells o' 27)).heap.size ((W0.alloc (.cells o 27)).alloc (.cells o' 27)) w1) (j : Nat) => (show w1.cell? ⟨w.heap.size + 1 + 1, j, none⟩ = o[j]? by
    rw [show w.heap.size + 1 + 1 = W0.heap.size from HSZ.out.symm]
    have hk : w1.heap[W0.heap.size]? = some (.cells o 27 (0, 0)) := by
      rw [h.block _ (by simp; omega), Below.heap_alloc _ _ _ (by simp)]
      exact heap_alloc_last W0 _
    exact cell_of_row _ _ j o 27 (0, 0) hk))
  have ka : ∀ (o : Array Value) (j : Nat), (W0.alloc (.cells o 27)).cell? ⟨w.heap.size + 1 + 1, j, none⟩ = o[j]? := fun o j => by
    rw [show w.heap.size + 1 + 1 = W0.heap.size from HSZ.out.symm]
    exact cell_of_row _ _ j o 27 (0, 0) (heap_alloc_last W0 _)
  have HL2 := Lib.hid (fun o o' => ((hb0.alloc (by rw [HSZ.out]; omega) o).alloc (by rw [World.size_alloc, HSZ.out]; omega) o' : Below (w.heap.size + 2) W0 ((W0.alloc o).alloc o')))
  clear hW0 hsz ha hb hE hfa hfb h0
  go_enter Tryz.func11, Tryz.ntmps11
  subst hds
  subst hqs
  go_wp2_with fail
  rw [HW0.out]
  refine wp_loop_rounds 3 ?_
  rw [rounds_succ]
  go_wp2_with fail
  refine (HCA.out _ (HB.out _ (HL2.out _ _))).mono ?_
  rintro e w1 ⟨rfl, hb1⟩
  have hc1 := HT0.out _ _ (HL2.out _ _) hb1
  have k0 := HKS.out _ _ _ hb1
  clear hb1 HCA
  go_wp2_with fail
  exact HQ.out _ (HB.out _ hc1)
set_option maxRecDepth 100000 in
set_option maxHeartbeats 12800000 in
theorem diff_errB (a b : Doc) (w : World) (hE : Env w) (ha : a.lies w) (hb : b.lies w) (hfa : a.fits) (hfb : b.fits) (h0 : docErr a = 0) (h1 : ¬ docErr b = 0) :
    Calls Tryz.prog 11 #[.agg a.enc.toArray, .agg b.enc.toArray] w (DiffPost a b w) := by
  have HQ := Lib.hid (fun (w' : World) (h : Below w.heap.size w w') => (show DiffPost a b w (.returned (.tuple #[.slice none 0 0, .int .i64 (docErr b)])) w' from by
    unfold DiffPost
    rw [if_neg (by simpa using h0), if_pos h1]
    exact ⟨rfl, h⟩))
  have h1b : (docErr b != 0) = true := by simpa using h1
  have HCA := Lib.hid (fun (w1 : World) (h : Below w.heap.size w w1) => docCheck_calls a w1 (hE.below h (Nat.le_refl _)) (Doc.later ha h) hfa)
  have HCB := Lib.hid (fun (w1 : World) (h : Below w.heap.size w w1) => docCheck_calls b w1 (hE.below h (Nat.le_refl _)) (Doc.later hb h) hfb)

  rw [h0] at HCA
  generalize docErr b = E at *
  generalize DiffPost a b w = Q at *
  obtain ⟨title, lang, rate, drop, last, ra, rc, regs, ea, ec, evs, ca, cc, cms⟩ := a
  obtain ⟨title', lang', rate', drop', last', ra', rc', regs', ea', ec', evs', ca', cc', cms'⟩ := b
  simp only [Doc.enc] at *
  generalize hds : #[Value.string title, .string lang, .int .u8 rate, .bool drop, .int .i64 last, .slice ra regs.length rc, .slice ea evs.length ec, .slice ca cms.length cc] = ds
  generalize hqs : #[Value.string title', .string lang', .int .u8 rate', .bool drop', .int .i64 last', .slice ra' regs'.length rc', .slice ea' evs'.length ec', .slice ca' cms'.length cc'] = qs
  have f0 := box2_fst w ds qs 27 27 0 (.string title) (by rw [← hds]; rfl)
  have f1 := box2_fst w ds qs 27 27 1 (.string lang) (by rw [← hds]; rfl)
  have f2 := box2_fst w ds qs 27 27 2 (.int .u8 rate) (by rw [← hds]; rfl)
  have f3 := box2_fst w ds qs 27 27 3 (.bool drop) (by rw [← hds]; rfl)
  have f4 := box2_fst w ds qs 27 27 4 (.int .i64 last) (by rw [← hds]; rfl)
  have f5 := box2_fst w ds qs 27 27 5 (.slice ra regs.length rc) (by rw [← hds]; rfl)
  have f6 := box2_fst w ds qs 27 27 6 (.slice ea evs.length ec) (by rw [← hds]; rfl)
  have f7 := box2_fst w ds qs 27 27 7 (.slice ca cms.length cc) (by rw [← hds]; rfl)
  have g0 := box2_snd w ds qs 27 27 0 (.string title') (by rw [← hqs]; rfl)
  have g1 := box2_snd w ds qs 27 27 1 (.string lang') (by rw [← hqs]; rfl)
  have g2 := box2_snd w ds qs 27 27 2 (.int .u8 rate') (by rw [← hqs]; rfl)
  have g3 := box2_snd w ds qs 27 27 3 (.bool drop') (by rw [← hqs]; rfl)
  have g4 := box2_snd w ds qs 27 27 4 (.int .i64 last') (by rw [← hqs]; rfl)
  have g5 := box2_snd w ds qs 27 27 5 (.slice ra' regs'.length rc') (by rw [← hqs]; rfl)
  have g6 := box2_snd w ds qs 27 27 6 (.slice ea' evs'.length ec') (by rw [← hqs]; rfl)
  have g7 := box2_snd w ds qs 27 27 7 (.slice ca' cms'.length cc') (by rw [← hqs]; rfl)
  have HB := Lib.hid (fun (w1 : World) (h : Below (w.heap.size + 2) ((w.alloc (.cells ds 27)).alloc (.cells qs 27)) w1) => box2_below h)
  have hb0 : Below (w.heap.size + 2) ((w.alloc (.cells ds 27)).alloc (.cells qs 27)) ((w.alloc (.cells ds 27)).alloc (.cells qs 27)) := Below.refl _ _
  have hsz : ((w.alloc (.cells ds 27)).alloc (.cells qs 27)).heap.size = w.heap.size + 2 := by simp
  generalize hW0 : (w.alloc (.cells ds 27)).alloc (.cells qs 27) = W0 at *
  have HW0 := Lib.hid hW0
  have HSZ := Lib.hid hsz
  have HT0 := Lib.hid (fun (w2 w3 : World) (h : Below (w.heap.size + 2) W0 w2) (h3 : Below w2.heap.size w2 w3) => (h.trans (h3.mono (by have := h.size; rw [HSZ.out] at this; exact this)) : Below (w.heap.size + 2) W0 w3))
  have HLT := Lib.hid (fun (w2 : World) (h : Below (w.heap.size + 2) W0 w2) => (show w.heap.size + 2 ≤ w2.heap.size by have := h.size; rw [HSZ.out] at this; exact this))
  have HKS := Lib.hid (fun (o o' : Array Value) (w1 : World) (h : Below ((W0.alloc (.cells o 27)).alloc (.cells o' 27)).heap.size ((W0.alloc (.cells o 27)).alloc (.cells o' 27)) w1) (j : Nat) => (show w1.cell? ⟨w.heap.size + 1 + 1, j, none⟩ = o[j]? by
    rw [show w.heap.size + 1 + 1 = W0.heap.size from HSZ.out.symm]
    have hk : w1.heap[W0.heap.size]? = some (.cells o 27 (0, 0)) := by
      rw [h.block _ (by simp; omega), Below.heap_alloc _ _ _ (by simp)]
      exact heap_alloc_last W0 _
    exact cell_of_row _ _ j o 27 (0, 0) hk))
  have ka : ∀ (o : Array Value) (j : Nat), (W0.alloc (.cells o 27)).cell? ⟨w.heap.size + 1 + 1, j, none⟩ = o[j]? := fun o j => by
    rw [show w.heap.size + 1 + 1 = W0.heap.size from HSZ.out.symm]
    exact cell_of_row _ _ j o 27 (0, 0) (heap_alloc_last W0 _)
  have HL2 := Lib.hid (fun o o' => ((hb0.alloc (by rw [HSZ.out]; omega) o).alloc (by rw [World.size_alloc, HSZ.out]; omega) o' : Below (w.heap.size + 2) W0 ((W0.alloc o).alloc o')))
  clear hW0 hsz ha hb hE hfa hfb h0 h1
  go_enter Tryz.func11, Tryz.ntmps11
  subst hds
  subst hqs
  go_wp2_with fail
  rw [HW0.out]
  refine wp_loop_rounds 3 ?_
  rw [rounds_succ]
  go_wp2_with fail
  refine (HCA.out _ (HB.out _ (HL2.out _ _))).mono ?_
  rintro e w1 ⟨rfl, hb1⟩
  have hc1 := HT0.out _ _ (HL2.out _ _) hb1
  have k0 := HKS.out _ _ _ hb1
  clear hb1 HCA
  go_wp2_with fail
  have HL1 := Lib.hid (fun o => (hc1.alloc (HLT.out _ hc1) o : Below (w.heap.size + 2) W0 (w1.alloc o)))
  rw [rounds_succ]
  go_wp2_with fail
  refine (HCB.out _ (HB.out _ (HL1.out _))).mono ?_
  rintro e w2 ⟨rfl, hb2⟩
  have hc2 := HT0.out _ _ (HL1.out _) hb2
  clear hb2 HCB k0
  go_wp2_with fail
  exact HQ.out _ (HB.out _ hc2)
end Go.Proofs.YtnlnmbcaongehaaGreatDoor
