/- The contracts of the reference of comments. -/
import Derived.Test.YtdgakmpopgpijaaGreatDoorJoinB
import Derived.Test.YtdgakmpopgpijaaGreatDoorFinds
import Derived.Test.YtdgakmpopgpijaaGreatDoorDocCheck
import Derived.Deep.RegionHeld3
set_option linter.unusedVariables false
/- The contracts of the reference's Find of events and checkComment. -/
namespace Go.Proofs.YtdgakmpopgpijaaGreatDoor
open Go.RowKit

theorem posFrom_at' {α : Type} (p : α → Bool) (xs : List α) (k : Nat) (x : α) (h : xs[k]? = some x) : posFrom p (xs.drop k) k = if p x = true then (k : Int) else posFrom p (xs.drop (k + 1)) (k + 1) := by
  rw [drop_at xs k x h, posFrom]

set_option maxHeartbeats 800000 in
theorem refDocFind_calls (d : Doc) (id : Int) (w : World) (hr : EvsAt w d.ea d.evs) (hl : d.evs.length ≤ 4000000) :
    Calls Tryz.prog 43 #[.agg d.enc.toArray, .int .i64 id] w fun e w' => e = .returned (.int .i64 (posOf (hasId id) d.evs)) ∧ Below w.heap.size w w' := by
  obtain ⟨title, lang, rate, drop, last, ra, rc, regs, a, ec, xs, ca, cc, cms⟩ := d
  simp only at hr hl
  simp only [Doc.enc]
  generalize hG : posOf (hasId id) xs = G
  have H0 := Lib.hid (show posFrom (hasId id) (xs.drop 0) 0 = G from hG)
  clear hG
  go_enter Tryz.func43, Tryz.ntmps43
  go_wp2_with fail
  go_loopw [10] (fun i wr => ∃ k : Nat, k ≤ xs.length ∧ i = .int .i64 k ∧ posFrom (hasId id) (xs.drop k) k = G ∧ Below w.heap.size w wr) (fun i _ => xs.length - (intOf i).toNat)
  case atStart => exact ⟨0, by omega, rfl, H0.out, (Below.refl _ _).alloc (Nat.le_refl _) _⟩
  case round =>
    obtain ⟨k, hk, rfl, hp, hb⟩ := hrel
    by_cases hlt : k < xs.length
    · obtain ⟨b, off, x, rfl, hbl, hx, hc, _⟩ := (hr.later hb).at_ hlt
      rw [posFrom_at' _ xs k x hx] at hp
      obtain ⟨xid, xin, xout, xreg, xkind, xsp, xa, xc, xrows⟩ := x
      have d0 := hc 0 _ rfl; have d1 := hc 1 _ rfl; have d2 := hc 2 _ rfl; have d3 := hc 3 _ rfl; have d4 := hc 4 _ rfl; have d5 := hc 5 _ rfl; have d6 := hc 6 _ rfl
      simp only [Nat.add_zero] at d0 d1 d2 d3 d4 d5 d6
      have HB := Lib.hid (fun o => hb.alloc hb.size o)
      by_cases ht : xid = id
      · subst ht
        rw [if_pos (by simp [hasId])] at hp
        have HP := Lib.hid hp
        clear hc hx hp H0
        go_wp2_with fail
        go_ret
        exact ⟨ret_int HP.out, HB.out _⟩
      · have ht' : (xid == id) = false := by simpa using ht
        rw [if_neg (by simp [hasId, ht])] at hp
        have HP := Lib.hid hp
        clear hc hx hp H0 ht
        go_wp2_with fail
        go_roundw
        case rel => exact ⟨k + 1, by omega, by go_num, HP.out, HB.out _⟩
        case measure => simp [intOf]; omega
    · obtain rfl : k = xs.length := by omega
      rw [List.drop_length] at hp
      have HP := Lib.hid hp
      clear hp H0
      go_wp2_with fail
      go_ret
      exact ⟨ret_int (by rw [← HP.out]; rfl), hb⟩

/-- Where an event with an ID lies. -/
def posF (evs : List Ev) (y : Int) : Option Nat := if posOf (hasId y) evs < 0 then none else some (posOf (hasId y) evs).toNat
theorem posF_lt (evs : List Ev) (z : Int) (i : Nat) (h : posF evs z = some i) : i < evs.length := by
  unfold posF at h
  split at h
  · cases h
  · rcases posOf_bd (hasId z) evs with hb | hb
    · omega
    · simp only [Option.some.injEq] at h; omega
theorem posF_none {evs : List Ev} {z : Int} (h : posF evs z = none) : posOf (hasId z) evs < 0 := by
  unfold posF at h
  split at h
  · assumption
  · cases h
theorem posF_some {evs : List Ev} {z : Int} {i : Nat} (h : posF evs z = some i) : posOf (hasId z) evs = i := by
  unfold posF at h
  split at h
  · cases h
  · simp only [Option.some.injEq] at h; omega
theorem posF_isSome {evs : List Ev} {z : Int} : (posF evs z).isSome = decide (0 ≤ posOf (hasId z) evs) := by
  unfold posF
  split
  · simp; omega
  · simp; omega
theorem notBehind_cases (cms : List Cm) (k : Nat) (c : Cm) (hk : k < cms.length) : (k = 0 ∧ notBehind (aheadOf cms k) c = false) ∨ (1 ≤ k ∧ ∃ p, cms[k - 1]? = some p ∧ notBehind (aheadOf cms k) c = decide (c.id ≤ p.id)) := by
  cases k with
  | zero => exact .inl ⟨rfl, rfl⟩
  | succ j =>
    refine .inr ⟨by omega, cms[j], by simp only [Nat.add_sub_cancel]; exact List.getElem?_eq_getElem (by omega), ?_⟩
    have e : aheadOf cms (j + 1) = some cms[j] := List.getElem?_eq_getElem (by omega)
    rw [e]; rfl

set_option maxRecDepth 100000 in
set_option maxHeartbeats 6400000 in
theorem refComment_first (d : Doc) (k : Nat) (c : Cm) (w : World) (hE : Env w) (hd : d.lies w) (hfd : d.fits) (hk : d.cms[k]? = some c) (hk0 : k = 0) (hnb : notBehind (aheadOf d.cms k) c = false) :
    Calls Tryz.prog 59 #[.agg d.enc.toArray, .int .i64 k] w fun e w' => e = .returned (.int .i64 (cmErr d.last (posF d.evs) d.evs (aheadOf d.cms k) c)) ∧ Below w.heap.size w w' := by
  have hcs := cm_cases d.last (posF d.evs) d.evs (aheadOf d.cms k) c _ rfl
  have has := anch_cases d.last (posF d.evs) d.evs c (posF_lt d.evs)
  have hkl : k < d.cms.length := (List.getElem?_eq_some_iff.1 hk).1
  have hfc := hfd.2.2.2.2.2.2.2.2.2.1 c (List.mem_of_getElem? hk)
  have hlc := hfd.2.2.2.2.2.2.2.2.2.2
  have hle := hfd.2.2.2.2.2.2.2.2.1
  have hfe := hfd.2.2.2.2.2.2.2.1
  have hF := fun (id : Int) (w1 : World) (h : Below w.heap.size w w1) => refDocFind_calls d id w1 (hd.2.1.later h) hle
  generalize cmErr d.last (posF d.evs) d.evs (aheadOf d.cms k) c = G at *
  generalize anchErr d.last (posF d.evs) d.evs c = A at *
  obtain ⟨bb, off, c', hca, hbl, hc', hcc, _⟩ := hd.2.2.at_ hkl
  obtain rfl : c' = c := Option.some.inj (hc'.symm.trans hk)
  have hkd : decide (0 < k) = false := by simp; omega
  clear hk0
  have HEV := Lib.hid hd.2.1
  obtain ⟨title, lang, rate, drop, last, ra, rc, regs, ea, ec, evs, ca, cc, cms⟩ := d
  simp only at hca
  subst hca
  obtain ⟨_, hi2, hi3, hi4, hs1, hs2⟩ := hfc
  obtain ⟨id, ev, frm, til, author, text, done, lost⟩ := c'
  simp only at hcs has hi2 hi3 hi4 hs1 hs2 hle hlc hfe hkl HEV
  have d0 := hcc 0 _ rfl; have d1 := hcc 1 _ rfl; have d2 := hcc 2 _ rfl; have d3 := hcc 3 _ rfl; have d4 := hcc 4 _ rfl; have d5 := hcc 5 _ rfl; have d6 := hcc 6 _ rfl; have d7 := hcc 7 _ rfl
  simp only [Nat.add_zero] at d0 d1 d2 d3 d4 d5 d6 d7
  simp only [Doc.enc] at hF ⊢
  generalize hds : #[Value.string title, .string lang, .int .u8 rate, .bool drop, .int .i64 last, .slice ra regs.length rc, .slice ea evs.length ec, .slice (some ⟨bb, off, none⟩) cms.length cc] = ds at *
  generalize hqs : #[Value.int .i64 id, .int .i64 ev, .int .i64 frm, .int .i64 til, .string author, .string text, .bool done, .bool lost] = qs
  have f0 := box2_fst w ds qs 28 116 0 (.string title) (by rw [← hds]; rfl)
  have f1 := box2_fst w ds qs 28 116 1 (.string lang) (by rw [← hds]; rfl)
  have f2 := box2_fst w ds qs 28 116 2 (.int .u8 rate) (by rw [← hds]; rfl)
  have f3 := box2_fst w ds qs 28 116 3 (.bool drop) (by rw [← hds]; rfl)
  have f4 := box2_fst w ds qs 28 116 4 (.int .i64 last) (by rw [← hds]; rfl)
  have f5 := box2_fst w ds qs 28 116 5 (.slice ra regs.length rc) (by rw [← hds]; rfl)
  have f6 := box2_fst w ds qs 28 116 6 (.slice ea evs.length ec) (by rw [← hds]; rfl)
  have f7 := box2_fst w ds qs 28 116 7 (.slice (some ⟨bb, off, none⟩) cms.length cc) (by rw [← hds]; rfl)
  have g0 := box2_snd w ds qs 28 116 0 (.int .i64 id) (by rw [← hqs]; rfl)
  have g1 := box2_snd w ds qs 28 116 1 (.int .i64 ev) (by rw [← hqs]; rfl)
  have g2 := box2_snd w ds qs 28 116 2 (.int .i64 frm) (by rw [← hqs]; rfl)
  have g3 := box2_snd w ds qs 28 116 3 (.int .i64 til) (by rw [← hqs]; rfl)
  have g4 := box2_snd w ds qs 28 116 4 (.string author) (by rw [← hqs]; rfl)
  have g5 := box2_snd w ds qs 28 116 5 (.string text) (by rw [← hqs]; rfl)
  have g7 := box2_snd w ds qs 28 116 7 (.bool lost) (by rw [← hqs]; rfl)
  have HB := Lib.hid (fun (w1 : World) (h : Below (w.heap.size + 2) ((w.alloc (.cells ds 28)).alloc (.cells qs 116)) w1) => box2_below h)
  have hb0 : Below (w.heap.size + 2) ((w.alloc (.cells ds 28)).alloc (.cells qs 116)) ((w.alloc (.cells ds 28)).alloc (.cells qs 116)) := Below.refl _ _
  have hsz : ((w.alloc (.cells ds 28)).alloc (.cells qs 116)).heap.size = w.heap.size + 2 := by simp
  skip
  generalize hW0 : (w.alloc (.cells ds 28)).alloc (.cells qs 116) = W0 at *
  have HW0 := Lib.hid hW0
  have HSZ := Lib.hid hsz
  have HT0 := Lib.hid (fun (w2 w3 : World) (h : Below (w.heap.size + 2) W0 w2) (h3 : Below w2.heap.size w2 w3) => h.trans (h3.mono (by have := h.size; rw [hsz] at this; exact this)))
  have HF := Lib.hid hF
  have HFE := Lib.hid hfe
  have HAS := Lib.hid has
  have HEN := Lib.hid (fun (w1 : World) (h : Below (w.heap.size + 2) W0 w1) => hE.below (HB.out _ h) (Nat.le_refl _))
  have HNM := Lib.hid (fun w1 => refName_calls author w1 hs1)
  have HVA := Lib.hid (fun w1 => refValid_calls text w1 hs2)
  have HCS := Lib.hid hcs
  clear hW0 hsz hF hfe hd hfd hE hcc hc' hk has hcs
  generalize nameB author = NB at *
  generalize validB text = VB at *
  rcases HCS.out with ⟨rfl, h1⟩ | ⟨rfl, h1, h2⟩ | ⟨h1, h2, hcs⟩
  · clear HCS HAS
    go_enter Tryz.func59, Tryz.ntmps59
    subst hds
    subst hqs
    go_wp2_with fail
    rw [HW0.out]
    go_ret
    exact ⟨rfl, HB.out _ hb0⟩
  · clear HCS HAS
    go_enter Tryz.func59, Tryz.ntmps59
    subst hds
    subst hqs
    go_wp2_with fail
    rw [HW0.out]
    go_ret
    exact ⟨rfl, HB.out _ hb0⟩
  · have HCS2 := Lib.hid hcs
    clear HCS hcs
    obtain ⟨_, hcs⟩ : _ ∧ _ := by rcases HCS2.out with ⟨h, _⟩ | h; rw [hnb] at h; cases h; exact h
    clear HCS2 hnb
    go_enter Tryz.func59, Tryz.ntmps59
    subst hds
    subst hqs
    go_wp2_with fail
    rw [HW0.out]
    go_quiet (fail)
    go_wp2_with fail
    have hq0 := below_drewN hb0
    refine (HF.out id _ (HB.out _ (hq0 _))).mono ?_
    rintro e w1 ⟨rfl, hb1⟩
    have hc1 := HT0.out _ _ (hq0 _) hb1
    clear hb1
    rcases hcs with ⟨hs, rfl⟩ | ⟨hs, hcs⟩
    · have hp1 : decide (0 ≤ posOf (hasId id) evs) = true := by rw [← posF_isSome]; exact hs
      clear hs HAS
      go_wp2_with fail
      go_ret
      exact ⟨rfl, HB.out _ hc1⟩
    · have hp1 : decide (0 ≤ posOf (hasId id) evs) = false := by rw [← posF_isSome]; exact hs
      clear hs
      rcases HAS.out with ⟨rfl, a1⟩ | ⟨rfl, a1, a2⟩ | ⟨a1, a2, ⟨rfl, ⟨rfl, a3⟩ | ⟨rfl, rfl, a3⟩ | ⟨rfl, rfl, rfl⟩⟩ | ⟨rfl, ⟨hq, rfl⟩ | ⟨i, x, hq, hi, hx, hcx⟩⟩⟩
      · obtain rfl : G = 2 := by rcases hcs with ⟨_, h⟩ | ⟨h, _⟩; exact h; cases h
        clear HAS hcs
        go_wp2_with fail
        go_ret
        exact ⟨rfl, HB.out _ hc1⟩
      · obtain rfl : G = 2 := by rcases hcs with ⟨_, h⟩ | ⟨h, _⟩; exact h; cases h
        clear HAS hcs
        go_wp2_with fail
        go_ret
        exact ⟨rfl, HB.out _ hc1⟩
      · obtain rfl : G = 2 := by rcases hcs with ⟨_, h⟩ | ⟨h, _⟩; exact h; cases h
        have a3d : (frm != 0) = true := by simpa using a3
        clear HAS hcs a3
        go_wp2_with fail
        go_ret
        exact ⟨rfl, HB.out _ hc1⟩
      · obtain rfl : G = 2 := by rcases hcs with ⟨_, h⟩ | ⟨h, _⟩; exact h; cases h
        have a3d : (til != 0) = true := by simpa using a3
        clear HAS hcs a3
        go_wp2_with fail
        go_ret
        exact ⟨rfl, HB.out _ hc1⟩
      · obtain ⟨_, htail⟩ : _ ∧ _ := by rcases hcs with ⟨h, _⟩ | h; cases h; exact h
        clear HAS hcs
        have hcx := hc1
        clear f0 f1 f2 f3 f5 f6 f7
        rcases htail with ⟨rfl, rfl⟩ | ⟨rfl, ⟨rfl, rfl⟩ | ⟨rfl, ⟨he, rfl⟩ | ⟨he, ⟨hz, rfl⟩ | ⟨hz, rfl⟩⟩⟩⟩
        · go_wp2_with (first
            | (go_at_call 91; refine (HNM.out _).mono ?_; rintro e w8 ⟨rfl, rfl⟩)
            | (go_at_call 90; refine (HVA.out _).mono ?_; rintro e w9 ⟨rfl, hb9⟩; have hc9 := HT0.out _ _ hcx hb9; clear hb9))
          go_ret
          exact ⟨rfl, HB.out _ hc1⟩
        · go_wp2_with (first
            | (go_at_call 91; refine (HNM.out _).mono ?_; rintro e w8 ⟨rfl, rfl⟩)
            | (go_at_call 90; refine (HVA.out _).mono ?_; rintro e w9 ⟨rfl, hb9⟩; have hc9 := HT0.out _ _ hcx hb9; clear hb9))
          go_ret
          exact ⟨rfl, HB.out _ hc9⟩
        · have he2 : text.toList.isEmpty = true := by simpa using he
          go_wp2_with (first
            | (go_at_call 91; refine (HNM.out _).mono ?_; rintro e w8 ⟨rfl, rfl⟩)
            | (go_at_call 90; refine (HVA.out _).mono ?_; rintro e w9 ⟨rfl, hb9⟩; have hc9 := HT0.out _ _ hcx hb9; clear hb9))
          go_ret
          exact ⟨rfl, HB.out _ hc9⟩
        · have he2 : text.toList.isEmpty = false := by simpa using he
          go_wp2_with (first
            | (go_at_call 91; refine (HNM.out _).mono ?_; rintro e w8 ⟨rfl, rfl⟩)
            | (go_at_call 90; refine (HVA.out _).mono ?_; rintro e w9 ⟨rfl, hb9⟩; have hc9 := HT0.out _ _ hcx hb9; clear hb9))
          go_ret
          exact ⟨rfl, HB.out _ hc9⟩
        · have he2 : text.toList.isEmpty = false := by simpa using he
          have hz2 : decide ((400 : Int) < (text.size : Int)) = false := by simp; omega
          go_wp2_with (first
            | (go_at_call 91; refine (HNM.out _).mono ?_; rintro e w8 ⟨rfl, rfl⟩)
            | (go_at_call 90; refine (HVA.out _).mono ?_; rintro e w9 ⟨rfl, hb9⟩; have hc9 := HT0.out _ _ hcx hb9; clear hb9))
          go_ret
          exact ⟨rfl, HB.out _ hc9⟩
      · obtain rfl : G = 6 := by rcases hcs with ⟨_, h⟩ | ⟨h, _⟩; exact h; cases h
        have hp2 := posF_none hq
        clear HAS hcs hq
        go_wp2_with fail
        refine (HF.out ev _ (HB.out _ hc1)).mono ?_
        rintro e w2 ⟨rfl, hb2⟩
        have hc2 := HT0.out _ _ hc1 hb2
        clear hb2
        go_wp2_with fail
        go_ret
        exact ⟨rfl, HB.out _ hc2⟩
      · have hp2 := posF_some hq
        have HF2 := Lib.hid (HF.out ev)
        rw [hp2] at HF2
        clear HAS hq hp2
        obtain ⟨eb, eo, x', hea, hebl, hx', hxc, hok⟩ := HEV.out.at_ hi
        subst hea
        obtain rfl : x' = x := Option.some.inj (hx'.symm.trans hx)
        have hfx := HFE.out x' (List.mem_of_getElem? hx)
        have HLen := Lib.hid (fun (w3 : World) (h : Below (w.heap.size + 2) W0 w3) => (refEvLen_calls x' w3 (HEN.out _ h) (Ev.keeps _ _ _ (HB.out _ h) hok) hfx).mono (fun e w' (q : e = .returned (.int .i64 (evLen x'.rows)) ∧ Below w3.heap.size w3 w') => (show e = .returned (.int .i64 (evLen x'.rows)) ∧ Below (w.heap.size + 2) W0 w' from ⟨q.1, HT0.out _ _ h q.2⟩)))
        have hxd : ∀ j v, x'.enc[j]? = some v → ∀ w3, Below (w.heap.size + 2) W0 w3 → w3.cell? ⟨eb, eo + i * 7 + j, none⟩ = some v := fun j v hv w3 h => by
          rw [(HB.out _ h).cell (p := ⟨eb, eo + i * 7 + j, none⟩) hebl]
          exact hxc j v hv
        clear hx hx' hxc hok hfx
        obtain ⟨xid, xin, xout, xreg, xkind, xsp, xa, xc, xrows⟩ := x'
        have e0 := hxd 0 _ rfl; have e1 := hxd 1 _ rfl; have e2 := hxd 2 _ rfl; have e3 := hxd 3 _ rfl; have e4 := hxd 4 _ rfl; have e5 := hxd 5 _ rfl; have e6 := hxd 6 _ rfl
        simp only [Nat.add_zero] at e0
        simp only [Ev.enc] at HLen hcx
        generalize evLen xrows = L at *
        clear hxd
        rcases hcx with ⟨rfl, h3⟩ | ⟨rfl, h3, h4⟩ | ⟨h3, h4, ⟨rfl, h5⟩ | ⟨rfl, h5⟩⟩
        · obtain rfl : G = 2 := by rcases hcs with ⟨_, h⟩ | ⟨h, _⟩; exact h; cases h
          have h3d : decide (frm < 0) = true := by simp; omega
          clear HLen hcs
          go_wp2_with fail
          refine (HF2.out _ (HB.out _ hc1)).mono ?_
          rintro e w2 ⟨rfl, hb2⟩
          have hc2 := HT0.out _ _ hc1 hb2
          clear hb2
          go_wp2_with fail
          go_quiet (fail)
          go_wp2_with fail
          go_ret
          exact ⟨rfl, HB.out _ (below_drewN hc2 _)⟩
        · obtain rfl : G = 2 := by rcases hcs with ⟨_, h⟩ | ⟨h, _⟩; exact h; cases h
          have h3d : decide (frm < 0) = false := by simp; omega
          have h4d : decide (til ≤ frm) = true := by simp; omega
          clear HLen hcs
          go_wp2_with fail
          refine (HF2.out _ (HB.out _ hc1)).mono ?_
          rintro e w2 ⟨rfl, hb2⟩
          have hc2 := HT0.out _ _ hc1 hb2
          clear hb2
          go_wp2_with fail
          go_quiet (fail)
          go_wp2_with fail
          go_ret
          exact ⟨rfl, HB.out _ (below_drewN hc2 _)⟩
        · obtain rfl : G = 2 := by rcases hcs with ⟨_, h⟩ | ⟨h, _⟩; exact h; cases h
          have h3d : decide (frm < 0) = false := by simp; omega
          have h4d : decide (til ≤ frm) = false := by simp; omega
          have h5d : decide (L < til) = true := by simp; omega
          clear hcs
          go_wp2_with fail
          refine (HF2.out _ (HB.out _ hc1)).mono ?_
          rintro e w2 ⟨rfl, hb2⟩
          have hc2 := HT0.out _ _ hc1 hb2
          clear hb2
          go_wp2_with fail
          have hb0d : Below (w.heap.size + 2) W0 w2.drew := hc2.drew
          go_region_held3 (fun w' => Below (w.heap.size + 2) W0 w') (first | assumption | exact hb0d) (first | (go_at_call 102; ((with_reducible refine (HLen.out _ ?_).mono ?_); assumption); rintro e w3 ⟨rfl, hb3⟩))
          all_goals
            go_wp2_with fail
            go_ret
            exact ⟨rfl, HB.out _ (by assumption)⟩
        · obtain ⟨_, htail⟩ : _ ∧ _ := by rcases hcs with ⟨h, _⟩ | h; cases h; exact h
          have h3d : decide (frm < 0) = false := by simp; omega
          have h4d : decide (til ≤ frm) = false := by simp; omega
          have h5d : decide (L < til) = false := by simp; omega
          clear hcs
          go_wp2_with fail
          refine (HF2.out _ (HB.out _ hc1)).mono ?_
          rintro e w2 ⟨rfl, hb2⟩
          have hc2 := HT0.out _ _ hc1 hb2
          clear hb2
          go_wp2_with fail
          have hb0d : Below (w.heap.size + 2) W0 w2.drew := hc2.drew
          go_region_held3 (fun w' => Below (w.heap.size + 2) W0 w') (first | assumption | exact hb0d) (first | (go_at_call 102; ((with_reducible refine (HLen.out _ ?_).mono ?_); assumption); rintro e w3 ⟨rfl, hb3⟩))
          all_goals
            clear e0 e1 e2 e3 e4 e5 e6 f0 f1 f2 f3 f4 f5 f6 f7 g0 g1 g2 g3 g7
            rcases htail with ⟨rfl, rfl⟩ | ⟨rfl, ⟨rfl, rfl⟩ | ⟨rfl, ⟨he, rfl⟩ | ⟨he, ⟨hz, rfl⟩ | ⟨hz, rfl⟩⟩⟩⟩
            · go_wp2_with (first
                | (go_at_call 91; refine (HNM.out _).mono ?_; rintro e w8 ⟨rfl, rfl⟩)
                | (go_at_call 90; refine (HVA.out _).mono ?_; rintro e w9 ⟨rfl, hb9⟩; have hc9 := HT0.out _ _ (by assumption) hb9; clear hb9))
              go_ret
              exact ⟨rfl, HB.out _ (by assumption)⟩
            · go_wp2_with (first
                | (go_at_call 91; refine (HNM.out _).mono ?_; rintro e w8 ⟨rfl, rfl⟩)
                | (go_at_call 90; refine (HVA.out _).mono ?_; rintro e w9 ⟨rfl, hb9⟩; have hc9 := HT0.out _ _ (by assumption) hb9; clear hb9))
              go_ret
              exact ⟨rfl, HB.out _ hc9⟩
            · have he2 : text.toList.isEmpty = true := by simpa using he
              go_wp2_with (first
                | (go_at_call 91; refine (HNM.out _).mono ?_; rintro e w8 ⟨rfl, rfl⟩)
                | (go_at_call 90; refine (HVA.out _).mono ?_; rintro e w9 ⟨rfl, hb9⟩; have hc9 := HT0.out _ _ (by assumption) hb9; clear hb9))
              go_ret
              exact ⟨rfl, HB.out _ hc9⟩
            · have he2 : text.toList.isEmpty = false := by simpa using he
              go_wp2_with (first
                | (go_at_call 91; refine (HNM.out _).mono ?_; rintro e w8 ⟨rfl, rfl⟩)
                | (go_at_call 90; refine (HVA.out _).mono ?_; rintro e w9 ⟨rfl, hb9⟩; have hc9 := HT0.out _ _ (by assumption) hb9; clear hb9))
              go_ret
              exact ⟨rfl, HB.out _ hc9⟩
            · have he2 : text.toList.isEmpty = false := by simpa using he
              have hz2 : decide ((400 : Int) < (text.size : Int)) = false := by simp; omega
              go_wp2_with (first
                | (go_at_call 91; refine (HNM.out _).mono ?_; rintro e w8 ⟨rfl, rfl⟩)
                | (go_at_call 90; refine (HVA.out _).mono ?_; rintro e w9 ⟨rfl, hb9⟩; have hc9 := HT0.out _ _ (by assumption) hb9; clear hb9))
              go_ret
              exact ⟨rfl, HB.out _ hc9⟩


end Go.Proofs.YtdgakmpopgpijaaGreatDoor

/- The contract of the reference's checkComment, the comments behind the first one. -/
namespace Go.Proofs.YtdgakmpopgpijaaGreatDoor
open Go.RowKit

set_option maxRecDepth 100000 in
set_option maxHeartbeats 6400000 in
theorem refComment_later (d : Doc) (k : Nat) (c : Cm) (w : World) (hE : Env w) (hd : d.lies w) (hfd : d.fits) (hk : d.cms[k]? = some c) (p : Cm) (hk0 : 1 ≤ k) (hpk : d.cms[k - 1]? = some p) (hnb : notBehind (aheadOf d.cms k) c = decide (c.id ≤ p.id)) :
    Calls Tryz.prog 59 #[.agg d.enc.toArray, .int .i64 k] w fun e w' => e = .returned (.int .i64 (cmErr d.last (posF d.evs) d.evs (aheadOf d.cms k) c)) ∧ Below w.heap.size w w' := by
  have hcs := cm_cases d.last (posF d.evs) d.evs (aheadOf d.cms k) c _ rfl
  have has := anch_cases d.last (posF d.evs) d.evs c (posF_lt d.evs)
  have hkl : k < d.cms.length := (List.getElem?_eq_some_iff.1 hk).1
  have hfc := hfd.2.2.2.2.2.2.2.2.2.1 c (List.mem_of_getElem? hk)
  have hlc := hfd.2.2.2.2.2.2.2.2.2.2
  have hle := hfd.2.2.2.2.2.2.2.2.1
  have hfe := hfd.2.2.2.2.2.2.2.1
  have hF := fun (id : Int) (w1 : World) (h : Below w.heap.size w w1) => refDocFind_calls d id w1 (hd.2.1.later h) hle
  generalize cmErr d.last (posF d.evs) d.evs (aheadOf d.cms k) c = G at *
  generalize anchErr d.last (posF d.evs) d.evs c = A at *
  obtain ⟨bb, off, c', hca, hbl, hc', hcc, _⟩ := hd.2.2.at_ hkl
  obtain rfl : c' = c := Option.some.inj (hc'.symm.trans hk)
  have hkd : decide (0 < k) = true := by simp; omega
  have hk1 : (k : Int) - 1 < (d.cms.length : Int) := by omega
  have hkz : (1 : Int) ≤ (k : Int) := by omega
  have hwr : IntKind.i64.wrap ((k : Int) - 1) = (k : Int) - 1 := IntWalk.i64_in _ (by omega)
  have hkn : ((k : Int) - 1).toNat = k - 1 := by omega
  obtain ⟨bb', off', p', hca', _, hp', hpc, _⟩ := hd.2.2.at_ (show k - 1 < d.cms.length by omega)
  obtain rfl : p' = p := Option.some.inj (hp'.symm.trans hpk)
  obtain ⟨rfl, rfl⟩ : bb = bb' ∧ off = off' := by rw [hca] at hca'; simpa using hca'
  have pid := hpc 0 _ rfl
  simp only [Nat.add_zero] at pid
  generalize p'.id = PID at *
  clear hpc hp' hpk hca' 
  have HEV := Lib.hid hd.2.1
  obtain ⟨title, lang, rate, drop, last, ra, rc, regs, ea, ec, evs, ca, cc, cms⟩ := d
  simp only at hca
  subst hca
  obtain ⟨_, hi2, hi3, hi4, hs1, hs2⟩ := hfc
  obtain ⟨id, ev, frm, til, author, text, done, lost⟩ := c'
  simp only at hcs has hi2 hi3 hi4 hs1 hs2 hle hlc hfe hkl HEV
  have d0 := hcc 0 _ rfl; have d1 := hcc 1 _ rfl; have d2 := hcc 2 _ rfl; have d3 := hcc 3 _ rfl; have d4 := hcc 4 _ rfl; have d5 := hcc 5 _ rfl; have d6 := hcc 6 _ rfl; have d7 := hcc 7 _ rfl
  simp only [Nat.add_zero] at d0 d1 d2 d3 d4 d5 d6 d7
  simp only [Doc.enc] at hF ⊢
  generalize hds : #[Value.string title, .string lang, .int .u8 rate, .bool drop, .int .i64 last, .slice ra regs.length rc, .slice ea evs.length ec, .slice (some ⟨bb, off, none⟩) cms.length cc] = ds at *
  generalize hqs : #[Value.int .i64 id, .int .i64 ev, .int .i64 frm, .int .i64 til, .string author, .string text, .bool done, .bool lost] = qs
  have f0 := box2_fst w ds qs 28 116 0 (.string title) (by rw [← hds]; rfl)
  have f1 := box2_fst w ds qs 28 116 1 (.string lang) (by rw [← hds]; rfl)
  have f2 := box2_fst w ds qs 28 116 2 (.int .u8 rate) (by rw [← hds]; rfl)
  have f3 := box2_fst w ds qs 28 116 3 (.bool drop) (by rw [← hds]; rfl)
  have f4 := box2_fst w ds qs 28 116 4 (.int .i64 last) (by rw [← hds]; rfl)
  have f5 := box2_fst w ds qs 28 116 5 (.slice ra regs.length rc) (by rw [← hds]; rfl)
  have f6 := box2_fst w ds qs 28 116 6 (.slice ea evs.length ec) (by rw [← hds]; rfl)
  have f7 := box2_fst w ds qs 28 116 7 (.slice (some ⟨bb, off, none⟩) cms.length cc) (by rw [← hds]; rfl)
  have g0 := box2_snd w ds qs 28 116 0 (.int .i64 id) (by rw [← hqs]; rfl)
  have g1 := box2_snd w ds qs 28 116 1 (.int .i64 ev) (by rw [← hqs]; rfl)
  have g2 := box2_snd w ds qs 28 116 2 (.int .i64 frm) (by rw [← hqs]; rfl)
  have g3 := box2_snd w ds qs 28 116 3 (.int .i64 til) (by rw [← hqs]; rfl)
  have g4 := box2_snd w ds qs 28 116 4 (.string author) (by rw [← hqs]; rfl)
  have g5 := box2_snd w ds qs 28 116 5 (.string text) (by rw [← hqs]; rfl)
  have g7 := box2_snd w ds qs 28 116 7 (.bool lost) (by rw [← hqs]; rfl)
  have HB := Lib.hid (fun (w1 : World) (h : Below (w.heap.size + 2) ((w.alloc (.cells ds 28)).alloc (.cells qs 116)) w1) => box2_below h)
  have hb0 : Below (w.heap.size + 2) ((w.alloc (.cells ds 28)).alloc (.cells qs 116)) ((w.alloc (.cells ds 28)).alloc (.cells qs 116)) := Below.refl _ _
  have hsz : ((w.alloc (.cells ds 28)).alloc (.cells qs 116)).heap.size = w.heap.size + 2 := by simp
  have p0 : ∀ w1, Below (w.heap.size + 2) ((w.alloc (.cells ds 28)).alloc (.cells qs 116)) w1 → w1.cell? ⟨bb, off + (k - 1) * 8, none⟩ = some (.int .i64 PID) := fun w1 h => ((box2_below h).cell (p := ⟨bb, off + (k - 1) * 8, none⟩) hbl).trans pid
  generalize hW0 : (w.alloc (.cells ds 28)).alloc (.cells qs 116) = W0 at *
  have HW0 := Lib.hid hW0
  have HSZ := Lib.hid hsz
  have HT0 := Lib.hid (fun (w2 w3 : World) (h : Below (w.heap.size + 2) W0 w2) (h3 : Below w2.heap.size w2 w3) => h.trans (h3.mono (by have := h.size; rw [hsz] at this; exact this)))
  have HF := Lib.hid hF
  have HFE := Lib.hid hfe
  have HAS := Lib.hid has
  have HEN := Lib.hid (fun (w1 : World) (h : Below (w.heap.size + 2) W0 w1) => hE.below (HB.out _ h) (Nat.le_refl _))
  have HNM := Lib.hid (fun w1 => refName_calls author w1 hs1)
  have HVA := Lib.hid (fun w1 => refValid_calls text w1 hs2)
  have HCS := Lib.hid hcs
  clear hW0 hsz hF hfe hd hfd hE hcc hc' hk has hcs
  generalize nameB author = NB at *
  generalize validB text = VB at *
  rcases HCS.out with ⟨rfl, h1⟩ | ⟨rfl, h1, h2⟩ | ⟨h1, h2, hcs⟩
  · clear HCS HAS
    go_enter Tryz.func59, Tryz.ntmps59
    subst hds
    subst hqs
    go_wp2_with fail
    rw [HW0.out]
    go_ret
    exact ⟨rfl, HB.out _ hb0⟩
  · clear HCS HAS
    go_enter Tryz.func59, Tryz.ntmps59
    subst hds
    subst hqs
    go_wp2_with fail
    rw [HW0.out]
    go_ret
    exact ⟨rfl, HB.out _ hb0⟩
  · have HCS2 := Lib.hid hcs
    clear HCS hcs
    rcases HCS2.out with ⟨hb, rfl⟩ | ⟨hb, hcs⟩
    · rw [hnb] at hb
      have hlt : decide (id ≤ PID) = true := hb
      clear HCS2 hnb HAS
      go_enter Tryz.func59, Tryz.ntmps59
      subst hds
      subst hqs
      go_wp2_with fail
      rw [HW0.out]
      go_quiet (fail)
      go_wp2_with fail
      go_ret
      exact ⟨rfl, HB.out _ (below_drewN hb0 _)⟩
    · rw [hnb] at hb
      have hlt : decide (id ≤ PID) = false := hb
      clear HCS2 hnb hb
      go_enter Tryz.func59, Tryz.ntmps59
      subst hds
      subst hqs
      go_wp2_with fail
      rw [HW0.out]
      go_quiet (fail)
      go_wp2_with fail
      have hq0 := below_drewN hb0
      clear p0
      refine (HF.out id _ (HB.out _ (hq0 _))).mono ?_
      rintro e w1 ⟨rfl, hb1⟩
      have hc1 := HT0.out _ _ (hq0 _) hb1
      clear hb1
      rcases hcs with ⟨hs, rfl⟩ | ⟨hs, hcs⟩
      · have hp1 : decide (0 ≤ posOf (hasId id) evs) = true := by rw [← posF_isSome]; exact hs
        clear hs HAS
        go_wp2_with fail
        go_ret
        exact ⟨rfl, HB.out _ hc1⟩
      · have hp1 : decide (0 ≤ posOf (hasId id) evs) = false := by rw [← posF_isSome]; exact hs
        clear hs
        rcases HAS.out with ⟨rfl, a1⟩ | ⟨rfl, a1, a2⟩ | ⟨a1, a2, ⟨rfl, ⟨rfl, a3⟩ | ⟨rfl, rfl, a3⟩ | ⟨rfl, rfl, rfl⟩⟩ | ⟨rfl, ⟨hq, rfl⟩ | ⟨i, x, hq, hi, hx, hcx⟩⟩⟩
        · obtain rfl : G = 2 := by rcases hcs with ⟨_, h⟩ | ⟨h, _⟩; exact h; cases h
          clear HAS hcs
          go_wp2_with fail
          go_ret
          exact ⟨rfl, HB.out _ hc1⟩
        · obtain rfl : G = 2 := by rcases hcs with ⟨_, h⟩ | ⟨h, _⟩; exact h; cases h
          clear HAS hcs
          go_wp2_with fail
          go_ret
          exact ⟨rfl, HB.out _ hc1⟩
        · obtain rfl : G = 2 := by rcases hcs with ⟨_, h⟩ | ⟨h, _⟩; exact h; cases h
          have a3d : (frm != 0) = true := by simpa using a3
          clear HAS hcs a3
          go_wp2_with fail
          go_ret
          exact ⟨rfl, HB.out _ hc1⟩
        · obtain rfl : G = 2 := by rcases hcs with ⟨_, h⟩ | ⟨h, _⟩; exact h; cases h
          have a3d : (til != 0) = true := by simpa using a3
          clear HAS hcs a3
          go_wp2_with fail
          go_ret
          exact ⟨rfl, HB.out _ hc1⟩
        · obtain ⟨_, htail⟩ : _ ∧ _ := by rcases hcs with ⟨h, _⟩ | h; cases h; exact h
          clear HAS hcs
          have hcx := hc1
          clear f0 f1 f2 f3 f5 f6 f7
          rcases htail with ⟨rfl, rfl⟩ | ⟨rfl, ⟨rfl, rfl⟩ | ⟨rfl, ⟨he, rfl⟩ | ⟨he, ⟨hz, rfl⟩ | ⟨hz, rfl⟩⟩⟩⟩
          · go_wp2_with (first
              | (go_at_call 91; refine (HNM.out _).mono ?_; rintro e w8 ⟨rfl, rfl⟩)
              | (go_at_call 90; refine (HVA.out _).mono ?_; rintro e w9 ⟨rfl, hb9⟩; have hc9 := HT0.out _ _ hcx hb9; clear hb9))
            go_ret
            exact ⟨rfl, HB.out _ hc1⟩
          · go_wp2_with (first
              | (go_at_call 91; refine (HNM.out _).mono ?_; rintro e w8 ⟨rfl, rfl⟩)
              | (go_at_call 90; refine (HVA.out _).mono ?_; rintro e w9 ⟨rfl, hb9⟩; have hc9 := HT0.out _ _ hcx hb9; clear hb9))
            go_ret
            exact ⟨rfl, HB.out _ hc9⟩
          · have he2 : text.toList.isEmpty = true := by simpa using he
            go_wp2_with (first
              | (go_at_call 91; refine (HNM.out _).mono ?_; rintro e w8 ⟨rfl, rfl⟩)
              | (go_at_call 90; refine (HVA.out _).mono ?_; rintro e w9 ⟨rfl, hb9⟩; have hc9 := HT0.out _ _ hcx hb9; clear hb9))
            go_ret
            exact ⟨rfl, HB.out _ hc9⟩
          · have he2 : text.toList.isEmpty = false := by simpa using he
            go_wp2_with (first
              | (go_at_call 91; refine (HNM.out _).mono ?_; rintro e w8 ⟨rfl, rfl⟩)
              | (go_at_call 90; refine (HVA.out _).mono ?_; rintro e w9 ⟨rfl, hb9⟩; have hc9 := HT0.out _ _ hcx hb9; clear hb9))
            go_ret
            exact ⟨rfl, HB.out _ hc9⟩
          · have he2 : text.toList.isEmpty = false := by simpa using he
            have hz2 : decide ((400 : Int) < (text.size : Int)) = false := by simp; omega
            go_wp2_with (first
              | (go_at_call 91; refine (HNM.out _).mono ?_; rintro e w8 ⟨rfl, rfl⟩)
              | (go_at_call 90; refine (HVA.out _).mono ?_; rintro e w9 ⟨rfl, hb9⟩; have hc9 := HT0.out _ _ hcx hb9; clear hb9))
            go_ret
            exact ⟨rfl, HB.out _ hc9⟩
        · obtain rfl : G = 6 := by rcases hcs with ⟨_, h⟩ | ⟨h, _⟩; exact h; cases h
          have hp2 := posF_none hq
          clear HAS hcs hq
          go_wp2_with fail
          refine (HF.out ev _ (HB.out _ hc1)).mono ?_
          rintro e w2 ⟨rfl, hb2⟩
          have hc2 := HT0.out _ _ hc1 hb2
          clear hb2
          go_wp2_with fail
          go_ret
          exact ⟨rfl, HB.out _ hc2⟩
        · have hp2 := posF_some hq
          have HF2 := Lib.hid (HF.out ev)
          rw [hp2] at HF2
          clear HAS hq hp2
          obtain ⟨eb, eo, x', hea, hebl, hx', hxc, hok⟩ := HEV.out.at_ hi
          subst hea
          obtain rfl : x' = x := Option.some.inj (hx'.symm.trans hx)
          have hfx := HFE.out x' (List.mem_of_getElem? hx)
          have HLen := Lib.hid (fun (w3 : World) (h : Below (w.heap.size + 2) W0 w3) => (refEvLen_calls x' w3 (HEN.out _ h) (Ev.keeps _ _ _ (HB.out _ h) hok) hfx).mono (fun e w' (q : e = .returned (.int .i64 (evLen x'.rows)) ∧ Below w3.heap.size w3 w') => (show e = .returned (.int .i64 (evLen x'.rows)) ∧ Below (w.heap.size + 2) W0 w' from ⟨q.1, HT0.out _ _ h q.2⟩)))
          have hxd : ∀ j v, x'.enc[j]? = some v → ∀ w3, Below (w.heap.size + 2) W0 w3 → w3.cell? ⟨eb, eo + i * 7 + j, none⟩ = some v := fun j v hv w3 h => by
            rw [(HB.out _ h).cell (p := ⟨eb, eo + i * 7 + j, none⟩) hebl]
            exact hxc j v hv
          clear hx hx' hxc hok hfx
          obtain ⟨xid, xin, xout, xreg, xkind, xsp, xa, xc, xrows⟩ := x'
          have e0 := hxd 0 _ rfl; have e1 := hxd 1 _ rfl; have e2 := hxd 2 _ rfl; have e3 := hxd 3 _ rfl; have e4 := hxd 4 _ rfl; have e5 := hxd 5 _ rfl; have e6 := hxd 6 _ rfl
          simp only [Nat.add_zero] at e0
          simp only [Ev.enc] at HLen hcx
          generalize evLen xrows = L at *
          clear hxd
          rcases hcx with ⟨rfl, h3⟩ | ⟨rfl, h3, h4⟩ | ⟨h3, h4, ⟨rfl, h5⟩ | ⟨rfl, h5⟩⟩
          · obtain rfl : G = 2 := by rcases hcs with ⟨_, h⟩ | ⟨h, _⟩; exact h; cases h
            have h3d : decide (frm < 0) = true := by simp; omega
            clear HLen hcs
            go_wp2_with fail
            refine (HF2.out _ (HB.out _ hc1)).mono ?_
            rintro e w2 ⟨rfl, hb2⟩
            have hc2 := HT0.out _ _ hc1 hb2
            clear hb2
            go_wp2_with fail
            go_quiet (fail)
            go_wp2_with fail
            go_ret
            exact ⟨rfl, HB.out _ (below_drewN hc2 _)⟩
          · obtain rfl : G = 2 := by rcases hcs with ⟨_, h⟩ | ⟨h, _⟩; exact h; cases h
            have h3d : decide (frm < 0) = false := by simp; omega
            have h4d : decide (til ≤ frm) = true := by simp; omega
            clear HLen hcs
            go_wp2_with fail
            refine (HF2.out _ (HB.out _ hc1)).mono ?_
            rintro e w2 ⟨rfl, hb2⟩
            have hc2 := HT0.out _ _ hc1 hb2
            clear hb2
            go_wp2_with fail
            go_quiet (fail)
            go_wp2_with fail
            go_ret
            exact ⟨rfl, HB.out _ (below_drewN hc2 _)⟩
          · obtain rfl : G = 2 := by rcases hcs with ⟨_, h⟩ | ⟨h, _⟩; exact h; cases h
            have h3d : decide (frm < 0) = false := by simp; omega
            have h4d : decide (til ≤ frm) = false := by simp; omega
            have h5d : decide (L < til) = true := by simp; omega
            clear hcs
            go_wp2_with fail
            refine (HF2.out _ (HB.out _ hc1)).mono ?_
            rintro e w2 ⟨rfl, hb2⟩
            have hc2 := HT0.out _ _ hc1 hb2
            clear hb2
            go_wp2_with fail
            have hb0d : Below (w.heap.size + 2) W0 w2.drew := hc2.drew
            go_region_held3 (fun w' => Below (w.heap.size + 2) W0 w') (first | assumption | exact hb0d) (first | (go_at_call 102; ((with_reducible refine (HLen.out _ ?_).mono ?_); assumption); rintro e w3 ⟨rfl, hb3⟩))
            all_goals
              go_wp2_with fail
              go_ret
              exact ⟨rfl, HB.out _ (by assumption)⟩
          · obtain ⟨_, htail⟩ : _ ∧ _ := by rcases hcs with ⟨h, _⟩ | h; cases h; exact h
            have h3d : decide (frm < 0) = false := by simp; omega
            have h4d : decide (til ≤ frm) = false := by simp; omega
            have h5d : decide (L < til) = false := by simp; omega
            clear hcs
            go_wp2_with fail
            refine (HF2.out _ (HB.out _ hc1)).mono ?_
            rintro e w2 ⟨rfl, hb2⟩
            have hc2 := HT0.out _ _ hc1 hb2
            clear hb2
            go_wp2_with fail
            have hb0d : Below (w.heap.size + 2) W0 w2.drew := hc2.drew
            go_region_held3 (fun w' => Below (w.heap.size + 2) W0 w') (first | assumption | exact hb0d) (first | (go_at_call 102; ((with_reducible refine (HLen.out _ ?_).mono ?_); assumption); rintro e w3 ⟨rfl, hb3⟩))
            all_goals
              clear e0 e1 e2 e3 e4 e5 e6 f0 f1 f2 f3 f4 f5 f6 f7 g0 g1 g2 g3 g7
              rcases htail with ⟨rfl, rfl⟩ | ⟨rfl, ⟨rfl, rfl⟩ | ⟨rfl, ⟨he, rfl⟩ | ⟨he, ⟨hz, rfl⟩ | ⟨hz, rfl⟩⟩⟩⟩
              · go_wp2_with (first
                  | (go_at_call 91; refine (HNM.out _).mono ?_; rintro e w8 ⟨rfl, rfl⟩)
                  | (go_at_call 90; refine (HVA.out _).mono ?_; rintro e w9 ⟨rfl, hb9⟩; have hc9 := HT0.out _ _ (by assumption) hb9; clear hb9))
                go_ret
                exact ⟨rfl, HB.out _ (by assumption)⟩
              · go_wp2_with (first
                  | (go_at_call 91; refine (HNM.out _).mono ?_; rintro e w8 ⟨rfl, rfl⟩)
                  | (go_at_call 90; refine (HVA.out _).mono ?_; rintro e w9 ⟨rfl, hb9⟩; have hc9 := HT0.out _ _ (by assumption) hb9; clear hb9))
                go_ret
                exact ⟨rfl, HB.out _ hc9⟩
              · have he2 : text.toList.isEmpty = true := by simpa using he
                go_wp2_with (first
                  | (go_at_call 91; refine (HNM.out _).mono ?_; rintro e w8 ⟨rfl, rfl⟩)
                  | (go_at_call 90; refine (HVA.out _).mono ?_; rintro e w9 ⟨rfl, hb9⟩; have hc9 := HT0.out _ _ (by assumption) hb9; clear hb9))
                go_ret
                exact ⟨rfl, HB.out _ hc9⟩
              · have he2 : text.toList.isEmpty = false := by simpa using he
                go_wp2_with (first
                  | (go_at_call 91; refine (HNM.out _).mono ?_; rintro e w8 ⟨rfl, rfl⟩)
                  | (go_at_call 90; refine (HVA.out _).mono ?_; rintro e w9 ⟨rfl, hb9⟩; have hc9 := HT0.out _ _ (by assumption) hb9; clear hb9))
                go_ret
                exact ⟨rfl, HB.out _ hc9⟩
              · have he2 : text.toList.isEmpty = false := by simpa using he
                have hz2 : decide ((400 : Int) < (text.size : Int)) = false := by simp; omega
                go_wp2_with (first
                  | (go_at_call 91; refine (HNM.out _).mono ?_; rintro e w8 ⟨rfl, rfl⟩)
                  | (go_at_call 90; refine (HVA.out _).mono ?_; rintro e w9 ⟨rfl, hb9⟩; have hc9 := HT0.out _ _ (by assumption) hb9; clear hb9))
                go_ret
                exact ⟨rfl, HB.out _ hc9⟩

theorem refComment_calls (d : Doc) (k : Nat) (c : Cm) (w : World) (hE : Env w) (hd : d.lies w) (hfd : d.fits) (hk : d.cms[k]? = some c) :
    Calls Tryz.prog 59 #[.agg d.enc.toArray, .int .i64 k] w fun e w' => e = .returned (.int .i64 (cmErr d.last (posF d.evs) d.evs (aheadOf d.cms k) c)) ∧ Below w.heap.size w w' := by
  rcases notBehind_cases d.cms k c (List.getElem?_eq_some_iff.1 hk).1 with ⟨h0, hn⟩ | ⟨h0, p, hp, hn⟩
  · exact refComment_first d k c w hE hd hfd hk h0 hn
  · exact refComment_later d k c w hE hd hfd hk p h0 hp hn


end Go.Proofs.YtdgakmpopgpijaaGreatDoor
