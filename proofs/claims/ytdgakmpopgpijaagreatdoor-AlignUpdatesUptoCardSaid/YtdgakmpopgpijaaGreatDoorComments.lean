/- The contract of document.comments: the first error of the comments of a document. -/
import Derived.Test.YtdgakmpopgpijaaGreatDoorDoc
set_option linter.unusedVariables false
namespace Go.Proofs.YtdgakmpopgpijaaGreatDoor
open Go.RowKit

/-- Whether a comment's ID is not behind that of the one ahead of it. -/
def notBehind (prev : Option Cm) (c : Cm) : Bool := match prev with
  | none => false
  | some p => decide (c.id ≤ p.id)
/-- The first error of a comment. -/
def cmErr (last : Int) (f : Int → Option Nat) (evs : List Ev) (prev : Option Cm) (c : Cm) : Int :=
  if c.id < 1 ∨ last < c.id then 2 else if notBehind prev c = true then 8 else if (f c.id).isSome = true then 7 else if (anchErr last f evs c != 0) = true then anchErr last f evs c else
  if nameB c.author = false then 5 else if validB c.text = false then 10 else if c.text.toList = [] then 4 else if 400 < c.text.size then 9 else 0
def cmsFrom (last : Int) (f : Int → Option Nat) (evs : List Ev) : Option Cm → List Cm → Int
  | _, [] => 0
  | prev, c :: l => if (cmErr last f evs prev c != 0) = true then cmErr last f evs prev c else cmsFrom last f evs (some c) l
/-- The first error of the comments. -/
def cmsErr (last : Int) (f : Int → Option Nat) (evs : List Ev) (cms : List Cm) : Int := if 64 < cms.length then 9 else cmsFrom last f evs none cms

theorem cmsFrom_next (last : Int) (f : Int → Option Nat) (evs : List Ev) (xs : List Cm) (k : Nat) (c : Cm) (hx : xs[k]? = some c) (prev : Option Cm) (h : cmErr last f evs prev c = 0) : cmsFrom last f evs prev (xs.drop k) = cmsFrom last f evs (aheadOf xs (k + 1)) (xs.drop (k + 1)) := by
  rw [drop_at xs k c hx, cmsFrom, h, if_neg (by decide), aheadOf, hx]
theorem cmsFrom_stop (last : Int) (f : Int → Option Nat) (evs : List Ev) (xs : List Cm) (k : Nat) (c : Cm) (hx : xs[k]? = some c) (prev : Option Cm) (h : (cmErr last f evs prev c != 0) = true) : cmsFrom last f evs prev (xs.drop k) = cmErr last f evs prev c := by
  rw [drop_at xs k c hx, cmsFrom, if_pos h]

theorem cm_cases (last : Int) (f : Int → Option Nat) (evs : List Ev) (prev : Option Cm) (c : Cm) (A : Int) (hA : anchErr last f evs c = A) :
    (cmErr last f evs prev c = 2 ∧ c.id < 1) ∨ (cmErr last f evs prev c = 2 ∧ 1 ≤ c.id ∧ last < c.id) ∨ (1 ≤ c.id ∧ c.id ≤ last ∧
      ((notBehind prev c = true ∧ cmErr last f evs prev c = 8) ∨ (notBehind prev c = false ∧
        (((f c.id).isSome = true ∧ cmErr last f evs prev c = 7) ∨ ((f c.id).isSome = false ∧
          (((A != 0) = true ∧ cmErr last f evs prev c = A) ∨ (A = 0 ∧
            ((nameB c.author = false ∧ cmErr last f evs prev c = 5) ∨ (nameB c.author = true ∧
              ((validB c.text = false ∧ cmErr last f evs prev c = 10) ∨ (validB c.text = true ∧
                ((c.text.toList = [] ∧ cmErr last f evs prev c = 4) ∨ (¬ c.text.toList = [] ∧
                  ((400 < c.text.size ∧ cmErr last f evs prev c = 9) ∨ (c.text.size ≤ 400 ∧ cmErr last f evs prev c = 0))))))))))))))) := by
  unfold cmErr
  rw [hA]
  by_cases h1 : c.id < 1
  · left; simp [h1]
  right
  by_cases h2 : last < c.id
  · left; simp [h2]; omega
  right
  refine ⟨by omega, by omega, ?_⟩
  rw [if_neg (by omega)]
  cases h3 : notBehind prev c
  · right
    refine ⟨rfl, ?_⟩
    rw [if_neg (by decide)]
    cases h4 : (f c.id).isSome
    · right
      refine ⟨rfl, ?_⟩
      rw [if_neg (by decide)]
      by_cases h5 : A = 0
      · right
        refine ⟨h5, ?_⟩
        subst h5
        rw [if_neg (by decide)]
        cases h6 : nameB c.author
        · left; simp
        right
        refine ⟨rfl, ?_⟩
        rw [if_neg (by decide)]
        cases h7 : validB c.text
        · left; simp
        right
        refine ⟨rfl, ?_⟩
        rw [if_neg (by decide)]
        by_cases h8 : c.text.toList = []
        · left; rw [if_pos h8]; exact ⟨h8, rfl⟩
        right
        refine ⟨h8, ?_⟩
        rw [if_neg h8]
        by_cases h9 : 400 < c.text.size
        · left; rw [if_pos h9]; exact ⟨h9, rfl⟩
        · right; rw [if_neg h9]; exact ⟨by omega, rfl⟩
      · left
        rw [if_pos (by simpa using h5)]
        exact ⟨by simpa using h5, rfl⟩
    · left; simp
  · left; simp

set_option maxHeartbeats 1600000 in
theorem comments_many (d : Doc) (b : Nat) (f : Int → Option Nat) (w : World) (hn : 64 < d.cms.length) :
    Calls Tryz.prog 42 #[.agg d.enc.toArray, .map (some b)] w fun e w' => e = .returned (.int .i64 (cmsErr d.last f d.evs d.cms)) ∧ Below w.heap.size w w' := by
  rw [cmsErr, if_pos hn]
  obtain ⟨title, lang, rate, drop, last, ra, rc, regs, ea, ec, evs, ca, cc, cms⟩ := d
  simp only [Doc.enc]
  simp only at hn
  have hn2 : decide ((64 : Int) < (cms.length : Int)) = true := by simp; omega
  go_enter Tryz.func42, Tryz.ntmps42
  go_wp2_with fail
  go_ret
  exact ⟨rfl, (Below.refl _ _).alloc (Nat.le_refl _) _⟩

set_option maxRecDepth 100000 in
set_option maxHeartbeats 6400000 in
theorem comments_few (d : Doc) (b n : Nat) (f : Int → Option Nat) (w : World) (hE : Env w) (hd : d.lies w) (hfd : d.fits) (hM : IMap w b n f) (hf : ∀ z i, f z = some i → i < d.evs.length) (hn : d.cms.length ≤ 64) :
    Calls Tryz.prog 42 #[.agg d.enc.toArray, .map (some b)] w fun e w' => e = .returned (.int .i64 (cmsErr d.last f d.evs d.cms)) ∧ Below w.heap.size w w' := by
  rw [cmsErr, if_neg (by omega)]
  have HAN := Lib.hid (fun (c : Cm) (w1 : World) (h1 : Env w1) (h2 : EvsAt w1 d.ea d.evs) (h3 : c.fits) (h4 : IMap w1 b n f) => anchored_calls d c b n f w1 h1 h2 hfd.2.2.2.2.2.2.2.1 hfd.2.2.2.2.2.2.2.2.1 h3 h4 hf)
  obtain ⟨title, lang, rate, drop, last, ra, rc, regs, ea, ec, evs, ca, cc, cms⟩ := d
  obtain ⟨_, hde, hdc⟩ := hd
  obtain ⟨_, _, _, _, hi5, _, _, _, _, hfc, _⟩ := hfd
  simp only at hde hdc hfc hn hi5
  simp only [Doc.enc] at HAN ⊢
  generalize hG : cmsFrom last f evs none cms = G
  have H0 := Lib.hid (show cmsFrom last f evs (aheadOf cms 0) (cms.drop 0) = G by rw [List.drop_zero]; exact hG)
  have hn2 : decide ((64 : Int) < (cms.length : Int)) = false := by simp; omega
  generalize hds : #[Value.string title, .string lang, .int .u8 rate, .bool drop, .int .i64 last, .slice ra regs.length rc, .slice ea evs.length ec, .slice ca cms.length cc] = ds at HAN ⊢
  have f0 := box_cell w ds 28 0 (.string title) (by rw [← hds]; rfl)
  have f1 := box_cell w ds 28 1 (.string lang) (by rw [← hds]; rfl)
  have f2 := box_cell w ds 28 2 (.int .u8 rate) (by rw [← hds]; rfl)
  have f3 := box_cell w ds 28 3 (.bool drop) (by rw [← hds]; rfl)
  have f4 := box_cell w ds 28 4 (.int .i64 last) (by rw [← hds]; rfl)
  have f5 := box_cell w ds 28 5 (.slice ra regs.length rc) (by rw [← hds]; rfl)
  have f6 := box_cell w ds 28 6 (.slice ea evs.length ec) (by rw [← hds]; rfl)
  have f7 := box_cell w ds 28 7 (.slice ca cms.length cc) (by rw [← hds]; rfl)
  have HB := Lib.hid (fun (w1 : World) (h : Below (w.heap.size + 1) (w.alloc (.cells ds 28)) w1) => box_below h)
  have hb0 : Below (w.heap.size + 1) (w.alloc (.cells ds 28)) (w.alloc (.cells ds 28)) := Below.refl _ _
  have hsz : (w.alloc (.cells ds 28)).heap.size = w.heap.size + 1 := World.size_alloc _ _
  generalize hW0 : w.alloc (.cells ds 28) = W0 at *
  have HW0 := Lib.hid hW0
  have HSZ := Lib.hid hsz
  have HFC := Lib.hid hfc
  have HM := Lib.hid hM
  have HDE := Lib.hid hde
  have HDC := Lib.hid hdc
  clear hW0 hsz hfc hf hG hM hde hdc
  go_enter Tryz.func42, Tryz.ntmps42
  subst hds
  go_wp2_with fail
  rw [HW0.out]
  go_loopw [17] (fun i wr => ∃ k : Nat, k ≤ cms.length ∧ i = .int .i64 k ∧ cmsFrom last f evs (aheadOf cms k) (cms.drop k) = G ∧ Below (w.heap.size + 1) W0 wr) (fun i _ => cms.length - (intOf i).toNat)
  case atStart => exact ⟨0, by omega, rfl, H0.out, hb0⟩
  case round =>
    obtain ⟨k, hk, rfl, hp, hb⟩ := hrel
    have hbw := HB.out _ hb
    by_cases hlt : k < cms.length
    · have hRr := HDC.out.later hbw
      obtain ⟨b', off, c, rfl, hbl, hx, hc, _⟩ := hRr.at_ hlt
      have hft := HFC.out c (List.mem_of_getElem? hx)
      have hpv : (k = 0 ∧ aheadOf cms k = none) ∨ (∃ y, 1 ≤ k ∧ aheadOf cms k = some y ∧ ∀ w1, Below wr.heap.size wr w1 → w1.cell? ⟨b', off + (k - 1) * 8, none⟩ = some (.int .i64 y.id)) := by
        rcases Nat.eq_zero_or_pos k with rfl | hk0
        · exact .inl ⟨rfl, rfl⟩
        · obtain ⟨b'', off', y, hab, _, hy, hcy, _⟩ := hRr.at_ (show k - 1 < cms.length by omega)
          simp only [Option.some.injEq, Addr.mk.injEq, and_true] at hab
          obtain ⟨rfl, rfl⟩ := hab
          refine .inr ⟨y, hk0, ?_, fun w1 h => ?_⟩
          · obtain ⟨j, rfl⟩ : ∃ j, k = j + 1 := ⟨k - 1, by omega⟩
            simpa [aheadOf] using hy
          · rw [h.cell (p := ⟨b', off + (k - 1) * 8, none⟩) hbl]
            exact hcy 0 _ rfl
      have hwsz := hb.size
      rw [HSZ.out] at hwsz
      have HN := Lib.hid (cmsFrom_next last f evs cms k c hx (aheadOf cms k))
      have HS := Lib.hid (cmsFrom_stop last f evs cms k c hx (aheadOf cms k))
      have HP := Lib.hid hp
      have hcs := cm_cases last f evs (aheadOf cms k) c _ rfl
      have hgx := fun j v h => box_cell wr c.enc.toArray 116 j v h
      have HBW := Lib.hid (fun w1 (h : Below (wr.heap.size + 1) (wr.alloc (.cells c.enc.toArray 116)) w1) => (hb.alloc hwsz _).trans (h.mono (by omega)))
      have HBR := Lib.hid (fun w1 (h : Below (wr.heap.size + 1) (wr.alloc (.cells c.enc.toArray 116)) w1) => (((Below.refl wr.heap.size wr).alloc (Nat.le_refl _) _).trans (h.mono (by omega))))
      have hq0 : Below (wr.heap.size + 1) (wr.alloc (.cells c.enc.toArray 116)) (wr.alloc (.cells c.enc.toArray 116)) := Below.refl _ _
      have hbLit := hb.alloc hwsz (.cells c.enc.toArray 116)
      have HLK := Lib.hid ((HM.out.below (HB.out _ (HBW.out _ hq0)) HM.out.lt).look hft.1)
      have HAQ := Lib.hid (fun w1 (h : Below (wr.heap.size + 1) (wr.alloc (.cells c.enc.toArray 116)) w1) => HAN.out c w1 (hE.below (HB.out _ (HBW.out _ h)) (Nat.le_refl _)) (HDE.out.later (HB.out _ (HBW.out _ h))) hft (HM.out.below (HB.out _ (HBW.out _ h)) HM.out.lt))
      have HVL := Lib.hid (fun w1 (h : Below (wr.heap.size + 1) (wr.alloc (.cells c.enc.toArray 116)) w1) => valid_calls c.text w1 hft.2.2.2.2.2 (hE.below (HB.out _ (HBW.out _ h)) (Nat.le_refl _)))
      have HNM := Lib.hid (fun w1 => name_calls c.author w1 hft.2.2.2.2.1)
      have hft6 := hft.2.2.2.2.2
      generalize cmErr last f evs (aheadOf cms k) c = E at *
      generalize anchErr last f evs c = A at *
      generalize aheadOf cms k = pv at *
      obtain ⟨id, ev, frm, til, author, text, done, lost⟩ := c
      have d0 := hc 0 _ rfl; have d1 := hc 1 _ rfl; have d2 := hc 2 _ rfl; have d3 := hc 3 _ rfl; have d4 := hc 4 _ rfl; have d5 := hc 5 _ rfl; have d6 := hc 6 _ rfl; have d7 := hc 7 _ rfl
      have g0 := hgx 0 _ rfl; have g1 := hgx 1 _ rfl; have g2 := hgx 2 _ rfl; have g3 := hgx 3 _ rfl; have g4 := hgx 4 _ rfl; have g5 := hgx 5 _ rfl; have g6 := hgx 6 _ rfl; have g7 := hgx 7 _ rfl
      have hid1 := hft.1
      simp only [Nat.add_zero, Cm.enc] at d0 d1 d2 d3 d4 d5 d6 d7 g0 g1 g2 g3 g4 g5 g6 g7 HBW HBR hq0 HLK HAQ HVL HNM hcs hft6 hid1 hbLit
      have hsz1 : (wr.alloc (.cells #[.int .i64 id, .int .i64 ev, .int .i64 frm, .int .i64 til, .string author, .string text, .bool done, .bool lost] 116)).heap.size = wr.heap.size + 1 := World.size_alloc _ _
      have HLK0 := HLK
      generalize hW1 : wr.alloc (.cells #[.int .i64 id, .int .i64 ev, .int .i64 frm, .int .i64 til, .string author, .string text, .bool done, .bool lost] 116) = W1 at g0 g1 g2 g3 g4 g5 g6 g7 HBW HBR hq0 HAQ HVL hsz1 HLK0
      have HW1 := Lib.hid hW1
      have HSZ1 := Lib.hid hsz1
      have hqq : ∀ q, Below (wr.heap.size + 1) W1 (W1.drewN q) := fun q => below_drewN hq0 q
      have hWb := HBW.out _ hq0
      have hWq := fun q => HBW.out _ (hqq q)
      have HT := Lib.hid (fun (w2 w3 : World) (h : Below (wr.heap.size + 1) W1 w2) (h3 : Below w2.heap.size w2 w3) => h.trans (h3.mono (by have := h.size; rw [HSZ1.out] at this; exact this)))
      have hcell : (pv = none ∧ decide (0 < k) = false) ∨ (∃ y, 1 ≤ k ∧ pv = some y ∧ decide (0 < k) = true ∧ (1 : Int) ≤ (k : Int) ∧ (k : Int) - 1 < (cms.length : Int) ∧ IntKind.i64.wrap ((k : Int) - 1) = (k : Int) - 1 ∧ ((k : Int) - 1).toNat = k - 1 ∧ ∀ w1, Below (wr.heap.size + 1) W1 w1 → w1.cell? ⟨b', off + (k - 1) * 8, none⟩ = some (.int .i64 y.id)) := by
        rcases hpv with ⟨h1, h2⟩ | ⟨y, h1, h2, h3⟩
        · exact .inl ⟨h2, by simp; omega⟩
        · exact .inr ⟨y, h1, h2, by simp; omega, by omega, by omega, IntWalk.i64_in _ (by omega), by omega, fun w1 h => h3 w1 (HBR.out _ h)⟩
      clear hpv hc hgx hW1 hsz1 H0 hRr hp hx HAN hft HLK0
      rcases hcs with ⟨he, h1⟩ | ⟨he, h1, h2⟩ | ⟨h1, h2, ⟨h3, he⟩ | ⟨h3, hcs⟩⟩
      · have HEE := Lib.hid he
        clear he hcell
        go_wp2_with (at_lookup; refine wpList_lookup_run _ rfl _ _ _ _ rfl _ _ _ rfl rfl HLK.out ?_)
        rw [HW1.out]
        go_ret
        exact ⟨ret_int (by rw [← HP.out, HS.out (by rw [HEE.out]; rfl), HEE.out]), HB.out _ (HBW.out _ hq0)⟩
      · have HEE := Lib.hid he
        clear he hcell
        go_wp2_with (at_lookup; refine wpList_lookup_run _ rfl _ _ _ _ rfl _ _ _ rfl rfl HLK.out ?_)
        rw [HW1.out]
        go_ret
        exact ⟨ret_int (by rw [← HP.out, HS.out (by rw [HEE.out]; rfl), HEE.out]), HB.out _ (HBW.out _ hq0)⟩
      · have HEE := Lib.hid he
        rcases hcell with ⟨rfl, hkd⟩ | ⟨y, hk1, rfl, hkd, hkz, hkl, hwr, hkn, p0⟩
        · simp [notBehind] at h3
        have h3d : decide (id ≤ y.id) = true := by simpa [notBehind] using h3
        generalize y.id = yi at *
        clear he h3
        go_wp2_with (at_lookup; refine wpList_lookup_run _ rfl _ _ _ _ rfl _ _ _ rfl rfl HLK.out ?_)
        rw [HW1.out]
        go_quiet (fail)
        go_wp2_with fail
        go_ret
        exact ⟨ret_int (by rw [← HP.out, HS.out (by rw [HEE.out]; rfl), HEE.out]), HB.out _ (HBW.out _ (hqq _))⟩
      have hprev : (decide (0 < k) = false) ∨ (∃ yi : Int, (decide (id ≤ yi) = false) ∧ 1 ≤ k ∧ decide (0 < k) = true ∧ (1 : Int) ≤ (k : Int) ∧ (k : Int) - 1 < (cms.length : Int) ∧ IntKind.i64.wrap ((k : Int) - 1) = (k : Int) - 1 ∧ ((k : Int) - 1).toNat = k - 1 ∧ ∀ w1, Below (wr.heap.size + 1) W1 w1 → w1.cell? ⟨b', off + (k - 1) * 8, none⟩ = some (.int .i64 yi)) := by
        rcases hcell with ⟨rfl, hkd⟩ | ⟨y, hk1, rfl, hkd, hkz, hkl, hwr, hkn, p0⟩
        · exact .inl hkd
        · exact .inr ⟨y.id, by simpa [notBehind] using h3, hk1, hkd, hkz, hkl, hwr, hkn, p0⟩
      clear hcell h3
      rcases hcs with ⟨ht, he⟩ | ⟨ht, hcs⟩
      · have HEE := Lib.hid he
        rw [ht] at HLK
        clear he ht
        rcases hprev with hkd | ⟨yi, h3d, hk1, hkd, hkz, hkl, hwr, hkn, p0⟩
        all_goals
          go_wp2_with (at_lookup; refine wpList_lookup_run _ rfl _ _ _ _ rfl _ _ _ rfl rfl HLK.out ?_)
          rw [HW1.out]
          go_quiet (fail)
          go_wp2_with fail
          go_ret
          exact ⟨ret_int (by rw [← HP.out, HS.out (by rw [HEE.out]; rfl), HEE.out]), HB.out _ (hWq _)⟩
      rw [ht] at HLK
      clear ht
      rcases hcs with ⟨ha, he⟩ | ⟨rfl, hcs⟩
      · have HEE := Lib.hid he
        have HHA := Lib.hid ha
        clear he
        rcases hprev with hkd | ⟨yi, h3d, hk1, hkd, hkz, hkl, hwr, hkn, p0⟩
        all_goals
          go_wp2_with (at_lookup; refine wpList_lookup_run _ rfl _ _ _ _ rfl _ _ _ rfl rfl HLK.out ?_)
          rw [HW1.out]
          go_quiet (fail)
          go_wp2_with fail
          refine (HAQ.out _ (hqq _)).mono ?_
          rintro e w2 ⟨rfl, hb2⟩
          have hc2 := HT.out _ _ (hqq _) hb2
          have hd2 := HBW.out _ hc2
          clear hb2
          go_wp2_with fail
          go_ret
          exact ⟨ret_int (by rw [← HP.out, HS.out (by rw [HEE.out]; exact HHA.out), HEE.out]), HB.out _ hd2⟩
      rcases hcs with ⟨hnm, he⟩ | ⟨hnm, hcs⟩
      · have HEE := Lib.hid he
        rw [hnm] at HNM
        clear he hnm
        rcases hprev with hkd | ⟨yi, h3d, hk1, hkd, hkz, hkl, hwr, hkn, p0⟩
        all_goals
          go_wp2_with (at_lookup; refine wpList_lookup_run _ rfl _ _ _ _ rfl _ _ _ rfl rfl HLK.out ?_)
          rw [HW1.out]
          go_quiet (fail)
          go_wp2_with fail
          refine (HAQ.out _ (hqq _)).mono ?_
          rintro e w2 ⟨rfl, hb2⟩
          have hc2 := HT.out _ _ (hqq _) hb2
          have hd2 := HBW.out _ hc2
          clear hb2
          go_wp2_with fail
          refine (HNM.out _).mono ?_
          rintro e w3 ⟨rfl, rfl⟩
          go_wp2_with fail
          go_ret
          exact ⟨ret_int (by rw [← HP.out, HS.out (by rw [HEE.out]; rfl), HEE.out]), HB.out _ hd2⟩
      rw [hnm] at HNM
      clear hnm
      rcases hcs with ⟨hv, he⟩ | ⟨hv, hcs⟩
      · have HEE := Lib.hid he
        rw [hv] at HVL
        clear he hv
        rcases hprev with hkd | ⟨yi, h3d, hk1, hkd, hkz, hkl, hwr, hkn, p0⟩
        all_goals
          go_wp2_with (at_lookup; refine wpList_lookup_run _ rfl _ _ _ _ rfl _ _ _ rfl rfl HLK.out ?_)
          rw [HW1.out]
          go_quiet (fail)
          go_wp2_with fail
          refine (HAQ.out _ (hqq _)).mono ?_
          rintro e w2 ⟨rfl, hb2⟩
          have hc2 := HT.out _ _ (hqq _) hb2
          have hd2 := HBW.out _ hc2
          clear hb2
          go_wp2_with fail
          refine (HNM.out _).mono ?_
          rintro e w3 ⟨rfl, rfl⟩
          go_wp2_with fail
          refine (HVL.out _ hc2).mono ?_
          rintro e w4 ⟨rfl, hb4⟩
          have hc4 := HT.out _ _ hc2 hb4
          have hd4 := HBW.out _ hc4
          clear hb4
          go_wp2_with fail
          go_ret
          exact ⟨ret_int (by rw [← HP.out, HS.out (by rw [HEE.out]; rfl), HEE.out]), HB.out _ hd4⟩
      rw [hv] at HVL
      clear hv
      rcases hcs with ⟨hz, he⟩ | ⟨hz, ⟨hm, he⟩ | ⟨hm, he⟩⟩
      · have HEE := Lib.hid he
        have hz2 : text.toList.isEmpty = true := by simpa using hz
        clear he
        rcases hprev with hkd | ⟨yi, h3d, hk1, hkd, hkz, hkl, hwr, hkn, p0⟩
        all_goals
          go_wp2_with (at_lookup; refine wpList_lookup_run _ rfl _ _ _ _ rfl _ _ _ rfl rfl HLK.out ?_)
          rw [HW1.out]
          go_quiet (fail)
          go_wp2_with fail
          refine (HAQ.out _ (hqq _)).mono ?_
          rintro e w2 ⟨rfl, hb2⟩
          have hc2 := HT.out _ _ (hqq _) hb2
          have hd2 := HBW.out _ hc2
          clear hb2
          go_wp2_with fail
          refine (HNM.out _).mono ?_
          rintro e w3 ⟨rfl, rfl⟩
          go_wp2_with fail
          refine (HVL.out _ hc2).mono ?_
          rintro e w4 ⟨rfl, hb4⟩
          have hc4 := HT.out _ _ hc2 hb4
          have hd4 := HBW.out _ hc4
          clear hb4
          go_wp2_with fail
          go_ret
          exact ⟨ret_int (by rw [← HP.out, HS.out (by rw [HEE.out]; rfl), HEE.out]), HB.out _ hd4⟩
      · have HEE := Lib.hid he
        have hz2 : text.toList.isEmpty = false := by simpa using hz
        clear he
        rcases hprev with hkd | ⟨yi, h3d, hk1, hkd, hkz, hkl, hwr, hkn, p0⟩
        all_goals
          go_wp2_with (at_lookup; refine wpList_lookup_run _ rfl _ _ _ _ rfl _ _ _ rfl rfl HLK.out ?_)
          rw [HW1.out]
          go_quiet (fail)
          go_wp2_with fail
          refine (HAQ.out _ (hqq _)).mono ?_
          rintro e w2 ⟨rfl, hb2⟩
          have hc2 := HT.out _ _ (hqq _) hb2
          have hd2 := HBW.out _ hc2
          clear hb2
          go_wp2_with fail
          refine (HNM.out _).mono ?_
          rintro e w3 ⟨rfl, rfl⟩
          go_wp2_with fail
          refine (HVL.out _ hc2).mono ?_
          rintro e w4 ⟨rfl, hb4⟩
          have hc4 := HT.out _ _ hc2 hb4
          have hd4 := HBW.out _ hc4
          clear hb4
          go_wp2_with fail
          go_ret
          exact ⟨ret_int (by rw [← HP.out, HS.out (by rw [HEE.out]; rfl), HEE.out]), HB.out _ hd4⟩
      · have HEE := Lib.hid he
        have hz2 : text.toList.isEmpty = false := by simpa using hz
        clear he
        rcases hprev with hkd | ⟨yi, h3d, hk1, hkd, hkz, hkl, hwr, hkn, p0⟩
        all_goals
          go_wp2_with (at_lookup; refine wpList_lookup_run _ rfl _ _ _ _ rfl _ _ _ rfl rfl HLK.out ?_)
          rw [HW1.out]
          go_quiet (fail)
          go_wp2_with fail
          refine (HAQ.out _ (hqq _)).mono ?_
          rintro e w2 ⟨rfl, hb2⟩
          have hc2 := HT.out _ _ (hqq _) hb2
          have hd2 := HBW.out _ hc2
          clear hb2
          go_wp2_with fail
          refine (HNM.out _).mono ?_
          rintro e w3 ⟨rfl, rfl⟩
          go_wp2_with fail
          refine (HVL.out _ hc2).mono ?_
          rintro e w4 ⟨rfl, hb4⟩
          have hc4 := HT.out _ _ hc2 hb4
          have hd4 := HBW.out _ hc4
          clear hb4
          go_wp2_with fail
          go_roundw
          case rel => exact ⟨k + 1, by omega, by go_num, by rw [← HN.out HEE.out]; exact HP.out, hd4⟩
          case measure => simp [intOf]; omega
    · obtain rfl : k = cms.length := by omega
      rw [List.drop_length] at hp
      have HP := Lib.hid hp
      clear hp H0
      go_wp2_with fail
      go_ret
      exact ⟨ret_int (by rw [← HP.out]; cases aheadOf cms cms.length <;> rfl), HB.out _ hb⟩

end Go.Proofs.YtdgakmpopgpijaaGreatDoor
