/- The contracts of the reference of documents: Check, put, Events; Start. -/
import Derived.Test.YtdgakmpopgpijaaGreatDoorJoinC
import Derived.Test.YtdgakmpopgpijaaGreatDoorSorts
import Derived.Deep.RegionLaw
import Derived.Laws.OwnMore
import Derived.Test.YtdgakmpopgpijaaGreatDoorJoinR
set_option linter.unusedVariables false
/- The contract of the reference's Check of documents: the same specification as the program's. -/
namespace Go.Proofs.YtdgakmpopgpijaaGreatDoor
open Go.RowKit

/-! ### where events with an ID lie -/
theorem posFrom_first {α : Type} (p : α → Bool) : ∀ (xs : List α) (i k : Nat), posFrom p xs i = (k : Int) → ∀ j y, i + j < k → xs[j]? = some y → p y = false
  | [], i, k, h, j, y, _, hy => by simp at hy
  | z :: l, i, k, h, j, y, hj, hy => by
    unfold posFrom at h
    split at h
    · omega
    · rename_i hz
      cases j with
      | zero =>
        obtain rfl : z = y := by simpa using hy
        simpa using hz
      | succ j => exact posFrom_first p l (i + 1) k h j y (by omega) (by simpa using hy)
theorem posFrom_hit {α : Type} (p : α → Bool) : ∀ (xs : List α) (i k : Nat), posFrom p xs i = (k : Int) → i ≤ k → ∃ x, xs[k - i]? = some x ∧ p x = true
  | [], i, k, h, _ => by simp only [posFrom] at h; omega
  | y :: l, i, k, h, hk => by
    unfold posFrom at h
    split at h
    · rename_i hp
      obtain rfl : i = k := by omega
      exact ⟨y, by simp, hp⟩
    · rcases posFrom_bd p l (i + 1) with hb | hb
      · omega
      · obtain ⟨x, hx, hp⟩ := posFrom_hit p l (i + 1) k h (by omega)
        refine ⟨x, ?_, hp⟩
        rw [show k - i = (k - (i + 1)) + 1 by omega]
        simpa using hx
theorem posFrom_miss {α : Type} (p : α → Bool) : ∀ (xs : List α) (i : Nat), posFrom p xs i < 0 → ∀ (j : Nat) (y : α), xs[j]? = some y → p y = false
  | [], i, h, j, y, hy => by simp at hy
  | z :: l, i, h, j, y, hy => by
    unfold posFrom at h
    split at h
    · omega
    · rename_i hz
      cases j with
      | zero =>
        obtain rfl : z = y := by simpa using hy
        simpa using hz
      | succ j => exact posFrom_miss p l (i + 1) h j y (by simpa using hy)
theorem seen_get (evs : List Ev) : ∀ k y i, seenEv evs k y = some i → i < k ∧ ∃ x, evs[i]? = some x ∧ x.id = y
  | 0, y, i, h => by simp [seenEv] at h
  | k + 1, y, i, h => by
    simp only [seenEv] at h
    split at h
    · have := seen_get evs k y i h
      exact ⟨by omega, this.2⟩
    · rename_i x hx
      split at h
      · rename_i hy
        obtain rfl : k = i := by simpa using h
        exact ⟨by omega, x, hx, hy.symm⟩
      · have := seen_get evs k y i h
        exact ⟨by omega, this.2⟩
theorem seen_hit (evs : List Ev) : ∀ k y j x, j < k → evs[j]? = some x → x.id = y → (seenEv evs k y).isSome = true
  | 0, y, j, x, h, _, _ => by omega
  | k + 1, y, j, x, h, hx, hy => by
    simp only [seenEv]
    by_cases hj : j = k
    · subst hj
      rw [hx]
      simp [hy]
    · split
      · exact seen_hit evs k y j x (by omega) hx hy
      · split
        · rfl
        · exact seen_hit evs k y j x (by omega) hx hy
/-- The first event with the ID of the k-th one is the k-th one just where none is ahead of it. -/
theorem pos_seen (evs : List Ev) (k : Nat) (x : Ev) (hx : evs[k]? = some x) : (posOf (hasId x.id) evs != (k : Int)) = (seenEv evs k x.id).isSome := by
  have h0 : 0 ≤ posOf (hasId x.id) evs := by
    rcases posOf_bd (hasId x.id) evs with hb | hb
    · have := posFrom_miss (hasId x.id) evs 0 (show posFrom (hasId x.id) evs 0 < 0 by unfold posOf at hb; omega) k x hx
      simp [hasId] at this
    · exact hb.1
  obtain ⟨n, hn⟩ : ∃ n : Nat, posOf (hasId x.id) evs = (n : Int) := ⟨(posOf (hasId x.id) evs).toNat, by omega⟩
  obtain ⟨y, hy, hp⟩ := posFrom_hit (hasId x.id) evs 0 n hn (Nat.zero_le _)
  have hyid : y.id = x.id := by simpa [hasId] using hp
  have hfst := posFrom_first (hasId x.id) evs 0 n hn
  have hnk : n ≤ k := by
    by_cases hlt : k < n
    · have := hfst k x (by omega) hx
      simp [hasId] at this
    · omega
  rw [hn]
  cases hs : seenEv evs k x.id with
  | none =>
    have : n = k := by
      by_cases hlt : n < k
      · have := seen_hit evs k x.id n y hlt (by simpa using hy) hyid
        rw [hs] at this
        cases this
      · omega
    subst this
    simp
  | some i =>
    obtain ⟨hi, z, hz, hzid⟩ := seen_get evs k x.id i hs
    have : ¬ n = k := by
      rintro rfl
      have := hfst i z (by omega) hz
      simp [hasId, hzid] at this
    simp only [Option.isSome_some, bne_iff_ne, ne_eq]
    omega
/-- The first k events have IDs of their own. -/
def Dis (evs : List Ev) (k : Nat) : Prop := ∀ j x, j < k → evs[j]? = some x → (seenEv evs j x.id).isSome = false
theorem posF_seen (evs : List Ev) (h : Dis evs evs.length) : posF evs = seenEv evs evs.length := by
  funext y
  cases hs : seenEv evs evs.length y with
  | none =>
    unfold posF
    rw [if_pos]
    rcases posOf_bd (hasId y) evs with hb | hb
    · omega
    · obtain ⟨n, hn⟩ : ∃ n : Nat, posOf (hasId y) evs = (n : Int) := ⟨(posOf (hasId y) evs).toNat, by omega⟩
      obtain ⟨x, hx, hp⟩ := posFrom_hit (hasId y) evs 0 n hn (Nat.zero_le _)
      have := seen_hit evs evs.length y n x (by omega) (by simpa using hx) (by simpa [hasId] using hp)
      rw [hs] at this
      cases this
  | some i =>
    obtain ⟨hi, z, hz, hzid⟩ := seen_get evs evs.length y i hs
    have h0 : 0 ≤ posOf (hasId y) evs := by
      rcases posOf_bd (hasId y) evs with hb | hb
      · have := posFrom_miss (hasId y) evs 0 (show posFrom (hasId y) evs 0 < 0 by unfold posOf at hb; omega) i z hz
        simp [hasId, hzid] at this
      · exact hb.1
    obtain ⟨n, hn⟩ : ∃ n : Nat, posOf (hasId y) evs = (n : Int) := ⟨(posOf (hasId y) evs).toNat, by omega⟩
    obtain ⟨x, hx, hp⟩ := posFrom_hit (hasId y) evs 0 n hn (Nat.zero_le _)
    have hxid : x.id = y := by simpa [hasId] using hp
    have hfst := posFrom_first (hasId y) evs 0 n hn
    have e : n = i := by
      rcases Nat.lt_trichotomy n i with hlt | heq | hgt
      · have h1 := seen_hit evs i z.id n x hlt (by simpa using hx) (by rw [hxid, hzid])
        rw [h i z hi hz] at h1
        cases h1
      · exact heq
      · have := hfst i z (by omega) hz
        simp [hasId, hzid] at this
    unfold posF
    rw [if_neg (by omega), hn, e]
    simp
theorem Dis.step {evs : List Ev} {k : Nat} {x : Ev} (h : Dis evs k) (hx : evs[k]? = some x) (hs : (seenEv evs k x.id).isSome = false) : Dis evs (k + 1) := by
  intro j y hj hy
  by_cases hk : j = k
  · subst hk
    obtain rfl : x = y := Option.some.inj (hx.symm.trans hy)
    exact hs
  · exact h j y (by omega) hy

set_option maxRecDepth 100000 in
set_option maxHeartbeats 6400000 in
theorem refDocCheck_calls (d : Doc) (w : World) (hE : Env w) (hd : d.lies w) (hfd : d.fits) :
    Calls Tryz.prog 33 #[.agg d.enc.toArray] w fun e w' => e = .returned (.int .i64 (docErr d)) ∧ Below w.heap.size w w' := by
  have HCM0 := Lib.hid (fun (k : Nat) (c : Cm) (w1 : World) (h : Below w.heap.size w w1) (hk : d.cms[k]? = some c) => refComment_calls d k c w1 (hE.below h (Nat.le_refl _)) (Doc.later hd h) hfd hk)
  have HFI0 := Lib.hid (fun (id : Int) (w1 : World) (h : Below w.heap.size w w1) => refDocFind_calls d id w1 (hd.2.1.later h) hfd.2.2.2.2.2.2.2.2.1)
  have HHD := Lib.hid (fun (w1 : World) => refHead_calls d.title d.lang d.rate d.drop d.last d.ra d.ea d.ca d.regs.length d.evs.length d.cms.length d.rc d.ec d.cc w1 hfd.1 hfd.2.1 hfd.2.2.1 hfd.2.2.2.1)
  have HLS := Lib.hid (fun (w1 : World) (h1 : Regs w1 d.ra d.regs) => refList_calls d.ra d.rc d.regs w1 h1 hfd.2.2.2.2.2.1)
  have HCK0 := Lib.hid (fun (x : Ev) (w1 : World) (h1 : Env w1) (h2 : x.lies w1) (h3 : x.fits) (h4 : Regs w1 d.ra d.regs) => refEvCheck_calls x d.ra d.rc d.regs w1 h1 h2 h3 h4 hfd.2.2.2.2.2.1 hfd.2.2.2.2.2.2.1)
  obtain ⟨_, _, _, _, hi5, hfr, hlr, hfe, hle, _, hlc⟩ := hfd
  generalize hG : docErr d = G
  unfold docErr at hG
  obtain ⟨title, lang, rate, drop, last, ra, rc, regs, ea, ec, evs, ca, cc, cms⟩ := d
  obtain ⟨hdr, hde, _⟩ := hd
  simp only at hde hdr hi5 hfr hlr hfe hle hlc hG
  simp only [Doc.enc] at HCM0 HFI0 HHD HLS HCK0 ⊢
  have HCME := Lib.hid (restErr_end regs last evs cms)
  generalize hHE : headErr title lang rate drop last = HE at *
  generalize hLE : listErr regs = LE at *
  generalize hds : #[Value.string title, .string lang, .int .u8 rate, .bool drop, .int .i64 last, .slice ra regs.length rc, .slice ea evs.length ec, .slice ca cms.length cc] = ds at HCM0 HFI0 HHD ⊢
  have f0 := box_cell w ds 28 0 (.string title) (by rw [← hds]; rfl)
  have f1 := box_cell w ds 28 1 (.string lang) (by rw [← hds]; rfl)
  have f2 := box_cell w ds 28 2 (.int .u8 rate) (by rw [← hds]; rfl)
  have f3 := box_cell w ds 28 3 (.bool drop) (by rw [← hds]; rfl)
  have f4 := box_cell w ds 28 4 (.int .i64 last) (by rw [← hds]; rfl)
  have f5 := box_cell w ds 28 5 (.slice ra regs.length rc) (by rw [← hds]; rfl)
  have f6 := box_cell w ds 28 6 (.slice ea evs.length ec) (by rw [← hds]; rfl)
  have f7 := box_cell w ds 28 7 (.slice ca cms.length cc) (by rw [← hds]; rfl)
  have HB := Lib.hid (fun (w1 : World) (h : Below (w.heap.size + 1) (w.alloc (.cells ds 28)) w1) => box_below h)
  have hb0 : Below (w.heap.size + 1) (w.alloc (.cells ds 28)) (w.alloc (.cells ds 28)) := Below.refl _ _
  have hsz : (w.alloc (.cells ds 28)).heap.size = w.heap.size + 1 := World.size_alloc _ _
  generalize hW0 : w.alloc (.cells ds 28) = W0 at *
  have HW0 := Lib.hid hW0
  have HSZ := Lib.hid hsz
  have HT0 := Lib.hid (fun (w2 w3 : World) (h : Below (w.heap.size + 1) W0 w2) (h3 : Below w2.heap.size w2 w3) => h.trans (h3.mono (by have := h.size; rw [hsz] at this; exact this)))
  have HFE := Lib.hid hfe
  have HDE := Lib.hid hde
  have HDR := Lib.hid hdr
  have HG := Lib.hid hG
  clear hW0 hsz hfe hG hde hdr hHE hLE hfr
  rcases (show (HE != 0) = true ∨ (HE = 0 ∧ ((LE != 0) = true ∨ (LE = 0 ∧ (400 < evs.length ∨ evs.length ≤ 400)))) by
    by_cases h1 : HE = 0 <;> by_cases h2 : LE = 0 <;> simp [h1, h2] <;> omega) with h1 | ⟨rfl, h2 | ⟨rfl, h3⟩⟩
  · have HV := Lib.hid (show HE = G by rw [← HG.out, if_pos h1])
    clear HG
    go_enter Tryz.func33, Tryz.ntmps33
    subst hds
    go_wp2_with fail
    rw [HW0.out]
    refine (HHD.out _).mono ?_
    rintro e w1 ⟨rfl, hb1⟩
    have hc1 := HT0.out _ _ hb0 hb1
    clear hb1
    go_wp2_with fail
    go_ret
    exact ⟨ret_int HV.out, HB.out _ hc1⟩
  · have HV := Lib.hid (show LE = G by rw [← HG.out, if_neg (by decide), if_pos h2])
    clear HG
    go_enter Tryz.func33, Tryz.ntmps33
    subst hds
    go_wp2_with fail
    rw [HW0.out]
    refine (HHD.out _).mono ?_
    rintro e w1 ⟨rfl, hb1⟩
    have hc1 := HT0.out _ _ hb0 hb1
    clear hb1
    go_wp2_with fail
    refine (HLS.out _ (HDR.out.later (HB.out _ hc1))).mono ?_
    rintro e w2 ⟨rfl, hb2⟩
    have hc2 := HT0.out _ _ hc1 hb2
    clear hb2
    go_wp2_with fail
    go_ret
    exact ⟨ret_int HV.out, HB.out _ hc2⟩
  · rcases h3 with h3 | h3
    · have HV := Lib.hid (show 9 = G by rw [← HG.out, if_neg (by decide), if_neg (by decide), if_pos h3])
      have h3d : decide ((400 : Int) < (evs.length : Int)) = true := by simp; omega
      clear HG
      go_enter Tryz.func33, Tryz.ntmps33
      subst hds
      go_wp2_with fail
      rw [HW0.out]
      refine (HHD.out _).mono ?_
      rintro e w1 ⟨rfl, hb1⟩
      have hc1 := HT0.out _ _ hb0 hb1
      clear hb1
      go_wp2_with fail
      refine (HLS.out _ (HDR.out.later (HB.out _ hc1))).mono ?_
      rintro e w2 ⟨rfl, hb2⟩
      have hc2 := HT0.out _ _ hc1 hb2
      clear hb2
      go_wp2_with fail
      go_ret
      exact ⟨ret_int HV.out, HB.out _ hc2⟩
    · have h3d : decide ((400 : Int) < (evs.length : Int)) = false := by simp; omega
      have HV := Lib.hid (show restErr regs last evs cms 0 = G by rw [← HG.out, if_neg (by decide), if_neg (by decide), if_neg (by omega)])
      clear HG
      go_enter Tryz.func33, Tryz.ntmps33
      subst hds
      go_wp2_with fail
      rw [HW0.out]
      refine (HHD.out _).mono ?_
      rintro e w1 ⟨rfl, hb1⟩
      have hc1 := HT0.out _ _ hb0 hb1
      clear hb1
      go_wp2_with fail
      refine (HLS.out _ (HDR.out.later (HB.out _ hc1))).mono ?_
      rintro e w2 ⟨rfl, hb2⟩
      have hc2 := HT0.out _ _ hc1 hb2
      clear hb2
      clear HHD HLS
      go_wp2_with fail
      go_loopw [28] (fun i wr => ∃ k : Nat, k ≤ evs.length ∧ i = .int .i64 k ∧ restErr regs last evs cms k = G ∧ Dis evs k ∧ Below (w.heap.size + 1) W0 wr) (fun i _ => evs.length - (intOf i).toNat)
      case atStart => exact ⟨0, by omega, rfl, HV.out, fun j x hj => by omega, hc2⟩
      case round =>
        obtain ⟨k, hk, rfl, hp, hdis, hb⟩ := hrel
        have hbw := HB.out _ hb
        clear HV hc1 hc2
        by_cases hlt : k < evs.length
        · obtain ⟨b, off, x, rfl, hbl, hx, hc, hok⟩ := (HDE.out.later hbw).at_ hlt
          have hft := HFE.out x (List.mem_of_getElem? hx)
          have hRr := HDE.out.later hbw
          have hpv : (k = 0 ∧ aheadOf evs k = none) ∨ (∃ y : Ev, 1 ≤ k ∧ aheadOf evs k = some y ∧ ∀ j v, y.enc[j]? = some v → ∀ w1, Below wr.heap.size wr w1 → w1.cell? ⟨b, off + (k - 1) * 7 + j, none⟩ = some v) := by
            rcases Nat.eq_zero_or_pos k with rfl | hk0
            · exact .inl ⟨rfl, rfl⟩
            · obtain ⟨b'', off', y, hab, _, hy, hcy, _⟩ := hRr.at_ (show k - 1 < evs.length by omega)
              simp only [Option.some.injEq, Addr.mk.injEq, and_true] at hab
              obtain ⟨rfl, rfl⟩ := hab
              refine .inr ⟨y, hk0, ?_, fun j v hv w1 h => ?_⟩
              · obtain ⟨j, rfl⟩ : ∃ j, k = j + 1 := ⟨k - 1, by omega⟩
                simpa [aheadOf] using hy
              · rw [h.cell (p := ⟨b, off + (k - 1) * 7 + j, none⟩) hbl]
                exact hcy j v hv
          have hwsz := hb.size
          rw [HSZ.out] at hwsz
          have HN := Lib.hid (restErr_next regs last evs cms k x hx)
          have HS := Lib.hid (restErr_stop regs last evs cms k x hx)
          have HDS := Lib.hid (fun hs => hdis.step hx hs)
          have HPS := Lib.hid (pos_seen evs k x hx)
          have HP := Lib.hid hp
          have hcs := evStep_cases regs last (seenEv evs k) (aheadOf evs k) x _ rfl
          have hgx := fun j v h => box_cell wr x.enc.toArray 60 j v h
          have HBW := Lib.hid (fun w1 (h : Below (wr.heap.size + 1) (wr.alloc (.cells x.enc.toArray 60)) w1) => (hb.alloc hwsz _).trans (h.mono (by omega)))
          have HBR := Lib.hid (fun w1 (h : Below (wr.heap.size + 1) (wr.alloc (.cells x.enc.toArray 60)) w1) => (((Below.refl wr.heap.size wr).alloc (Nat.le_refl _) _).trans (h.mono (by omega))))
          have hq0 : Below (wr.heap.size + 1) (wr.alloc (.cells x.enc.toArray 60)) (wr.alloc (.cells x.enc.toArray 60)) := Below.refl _ _
          have HCHN := Lib.hid (fun (w2 w3 : World) (h : Below (wr.heap.size + 1) (wr.alloc (.cells x.enc.toArray 60)) w2) (h3 : Below w2.heap.size w2 w3) => h.trans (h3.mono (by have := h.size; rw [World.size_alloc] at this; exact this)))
          have HCK := Lib.hid (fun w1 (h : Below (wr.heap.size + 1) (wr.alloc (.cells x.enc.toArray 60)) w1) => (HCK0.out x w1 (hE.below (HB.out _ (HBW.out _ h)) (Nat.le_refl _)) (Ev.keeps _ _ _ (HBR.out _ h) hok) hft (HDR.out.later (HB.out _ (HBW.out _ h)))).mono (fun e w' (q : e = .returned (.int .i64 (evErr x regs)) ∧ Below w1.heap.size w1 w') => (show e = .returned (.int .i64 (evErr x regs)) ∧ Below (wr.heap.size + 1) (wr.alloc (.cells x.enc.toArray 60)) w' from ⟨q.1, HCHN.out _ _ h q.2⟩)))
          have HFI := Lib.hid (fun w1 (h : Below (wr.heap.size + 1) (wr.alloc (.cells x.enc.toArray 60)) w1) => (HFI0.out x.id w1 (HB.out _ (HBW.out _ h))).mono (fun e w' (q : e = .returned (.int .i64 (posOf (hasId x.id) evs)) ∧ Below w1.heap.size w1 w') => (show e = .returned (.int .i64 (posOf (hasId x.id) evs)) ∧ Below (wr.heap.size + 1) (wr.alloc (.cells x.enc.toArray 60)) w' from ⟨q.1, HCHN.out _ _ h q.2⟩)))
          have HLE0 := Lib.hid (fun (y : Ev) w1 (h : Below (wr.heap.size + 1) (wr.alloc (.cells x.enc.toArray 60)) w1) => (refLess_calls y x w1).mono (fun e w' (q : e = .returned (.bool (lessB y x)) ∧ Below w1.heap.size w1 w') => (show e = .returned (.bool (lessB y x)) ∧ Below (wr.heap.size + 1) (wr.alloc (.cells x.enc.toArray 60)) w' from ⟨q.1, HCHN.out _ _ h q.2⟩)))
          have hLT : ∀ y, evLate (some y) x = !lessB y x := fun y => rfl
          have hLN : evLate none x = false := rfl
          generalize aheadOf evs k = pv at *
          generalize hEE0 : evStep regs last (seenEv evs k) pv x = E at *
          generalize evErr x regs = A at *
          generalize hLT0 : evLate pv x = LT at *
          obtain ⟨xid, xin, xout, xreg, xkind, xsp, xa, xc, xrows⟩ := x
          have d0 := hc 0 _ rfl; have d1 := hc 1 _ rfl; have d2 := hc 2 _ rfl; have d3 := hc 3 _ rfl; have d4 := hc 4 _ rfl; have d5 := hc 5 _ rfl; have d6 := hc 6 _ rfl
          have g0 := hgx 0 _ rfl; have g1 := hgx 1 _ rfl; have g2 := hgx 2 _ rfl; have g3 := hgx 3 _ rfl; have g4 := hgx 4 _ rfl; have g5 := hgx 5 _ rfl; have g6 := hgx 6 _ rfl
          have q0 := fun w1 h => f0 w1 (HBW.out w1 h); have q1 := fun w1 h => f1 w1 (HBW.out w1 h); have q2 := fun w1 h => f2 w1 (HBW.out w1 h); have q3 := fun w1 h => f3 w1 (HBW.out w1 h)
          have q4 := fun w1 h => f4 w1 (HBW.out w1 h); have q5 := fun w1 h => f5 w1 (HBW.out w1 h); have q6 := fun w1 h => f6 w1 (HBW.out w1 h); have q7 := fun w1 h => f7 w1 (HBW.out w1 h)
          simp only [Nat.add_zero, Ev.enc] at d0 d1 d2 d3 d4 d5 d6 g0 g1 g2 g3 g4 g5 g6 q0 q1 q2 q3 q4 q5 q6 q7 HBW HBR hq0 HCK hcs HLE0 HFI HPS HDS
          have hbLit : ∀ o, Below (w.heap.size + 1) W0 (wr.alloc o) := fun o => hb.alloc hwsz o
          generalize hW1 : wr.alloc (.cells #[.int .i64 xid, .int .i64 xin, .int .i64 xout, .string xreg, .int .u8 xkind, .string xsp, .slice xa xrows.length xc] 60) = W1 at g0 g1 g2 g3 g4 g5 g6 q0 q1 q2 q3 q4 q5 q6 q7 HBW HBR hq0 HCK HLE0 HFI
          have HW1 := Lib.hid hW1
          have hprev : (LT = false ∧ decide (0 < k) = false) ∨ (∃ y : Ev, LT = (!lessB y ⟨xid, xin, xout, xreg, xkind, xsp, xa, xc, xrows⟩) ∧ 1 ≤ k ∧ decide (0 < k) = true ∧ (1 : Int) ≤ (k : Int) ∧ (k : Int) - 1 < (evs.length : Int) ∧ IntKind.i64.wrap ((k : Int) - 1) = (k : Int) - 1 ∧ ((k : Int) - 1).toNat = k - 1 ∧ ∀ j v, y.enc[j]? = some v → ∀ w1, Below (wr.heap.size + 1) W1 w1 → w1.cell? ⟨b, off + (k - 1) * 7 + j, none⟩ = some v) := by
            rcases hpv with ⟨h1, rfl⟩ | ⟨y, h1, rfl, h3⟩
            · exact .inl ⟨hLT0.symm.trans hLN, by simp; omega⟩
            · exact .inr ⟨y, hLT0.symm.trans (hLT y), h1, by simp; omega, by omega, by omega, IntWalk.i64_in _ (by omega), by omega, fun j v hv w1 h => h3 j v hv w1 (HBR.out _ h)⟩
          generalize posOf (hasId xid) evs = N at *
          clear hEE0
          clear hpv hc hgx hW1 hRr hp hx hft hok hLT hLN hLT0 HCME HCM0 hdis HCHN
          rcases hcs with ⟨hA, he⟩ | ⟨rfl, hcs⟩
          · have HEE := Lib.hid he
            clear he hprev
            go_wp2_with fail
            rw [HW1.out]
            refine (HCK.out _ hq0).mono ?_
            rintro e w3 ⟨rfl, hc3⟩
            go_wp2_with fail
            go_ret
            exact ⟨ret_int (by rw [← HP.out, HS.out _ HEE.out hA]), HB.out _ (HBW.out _ hc3)⟩
          rcases hcs with ⟨h1, he⟩ | ⟨h1, hcs⟩
          · have HEE := Lib.hid he
            clear he hprev
            go_wp2_with fail
            rw [HW1.out]
            refine (HCK.out _ hq0).mono ?_
            rintro e w3 ⟨rfl, hc3⟩
            go_wp2_with fail
            go_ret
            exact ⟨ret_int (by rw [← HP.out, HS.out _ HEE.out rfl]), HB.out _ (HBW.out _ hc3)⟩
          have h1d : decide (last < xid) = false := by simp; omega
          rcases hprev with ⟨rfl, hkd⟩ | ⟨y, hly, hk1, hkd, hkz, hkl, hwr, hkn, hpy⟩
          · rcases hcs with ⟨h2, he⟩ | ⟨_, ⟨ht, he⟩ | ⟨ht, he⟩⟩
            · cases h2
            · have HEE := Lib.hid he
              have hNk := HPS.out
              rw [ht] at hNk
              clear he ht HDS HPS
              go_wp2_with fail
              rw [HW1.out]
              refine (HCK.out _ hq0).mono ?_
              rintro e w3 ⟨rfl, hc3⟩
              go_wp2_with fail
              go_quiet (fail)
              go_wp2_with fail
              refine (HFI.out _ (below_drewN hc3 _)).mono ?_
              rintro e w4 ⟨rfl, hc4⟩
              go_wp2_with fail
              go_ret
              exact ⟨ret_int (by rw [← HP.out, HS.out _ HEE.out rfl]), HB.out _ (HBW.out _ hc4)⟩
            · have HEE := Lib.hid he
              have hNk := HPS.out
              rw [ht] at hNk
              have HDN := Lib.hid (HDS.out ht)
              clear he ht HDS HPS
              go_wp2_with fail
              rw [HW1.out]
              refine (HCK.out _ hq0).mono ?_
              rintro e w3 ⟨rfl, hc3⟩
              go_wp2_with fail
              go_quiet (fail)
              go_wp2_with fail
              refine (HFI.out _ (below_drewN hc3 _)).mono ?_
              rintro e w4 ⟨rfl, hc4⟩
              go_wp2_with fail
              go_roundw
              case rel => exact ⟨k + 1, by omega, by go_num, by rw [← HN.out HEE.out]; exact HP.out, HDN.out, HBW.out _ hc4⟩
              case measure => simp [intOf]; omega
          · have p0 := hpy 0 _ rfl; have p1 := hpy 1 _ rfl; have p2 := hpy 2 _ rfl; have p3 := hpy 3 _ rfl; have p4 := hpy 4 _ rfl; have p5 := hpy 5 _ rfl; have p6 := hpy 6 _ rfl
            have hly2 := HLE0.out y
            have HLY := Lib.hid hly2
            clear hpy hly2 HLE0
            obtain ⟨yid, yin, yout, yreg, ykind, ysp, ya, yc, yrows⟩ := y
            simp only [Nat.add_zero] at p0
            generalize lessB ⟨yid, yin, yout, yreg, ykind, ysp, ya, yc, yrows⟩ ⟨xid, xin, xout, xreg, xkind, xsp, xa, xc, xrows⟩ = LB at *
            cases LB
            · obtain rfl : LT = true := hly
              rcases hcs with ⟨_, he⟩ | ⟨h2, _⟩
              · have HEE := Lib.hid he
                clear he HDS HPS
                go_wp2_with fail
                rw [HW1.out]
                refine (HCK.out _ hq0).mono ?_
                rintro e w3 ⟨rfl, hc3⟩
                go_wp2_with fail
                have hb0d : Below (wr.heap.size + 1) W1 w3.drew := hc3.drew
                go_region_held3 (fun w' => Below (wr.heap.size + 1) W1 w') (first | assumption | exact hb0d) (first | (go_at_call 58; ((with_reducible refine (HLY.out _ ?_).mono ?_); assumption); rintro e w4 ⟨rfl, hc4⟩))
                all_goals
                  go_wp2_with fail
                  go_ret
                  exact ⟨ret_int (by rw [← HP.out, HS.out _ HEE.out rfl]), HB.out _ (HBW.out _ (by assumption))⟩
              · cases h2
            · obtain rfl : LT = false := hly
              rcases hcs with ⟨h2, _⟩ | ⟨_, ⟨ht, he⟩ | ⟨ht, he⟩⟩
              · cases h2
              · have HEE := Lib.hid he
                have hNk := HPS.out
                rw [ht] at hNk
                clear he ht HDS HPS
                go_wp2_with fail
                rw [HW1.out]
                refine (HCK.out _ hq0).mono ?_
                rintro e w3 ⟨rfl, hc3⟩
                go_wp2_with fail
                have hb0d : Below (wr.heap.size + 1) W1 w3.drew := hc3.drew
                go_region_held3 (fun w' => Below (wr.heap.size + 1) W1 w') (first | assumption | exact hb0d) (first | (go_at_call 58; ((with_reducible refine (HLY.out _ ?_).mono ?_); assumption); rintro e w4 ⟨rfl, hc4⟩))
                all_goals
                  clear p0 p1 p2 p3 p4 p5 p6
                  go_wp2_with fail
                  refine (HFI.out _ (by assumption)).mono ?_
                  rintro e w5 ⟨rfl, hc5⟩
                  go_wp2_with fail
                  go_ret
                  exact ⟨ret_int (by rw [← HP.out, HS.out _ HEE.out rfl]), HB.out _ (HBW.out _ hc5)⟩
              · have HEE := Lib.hid he
                have hNk := HPS.out
                rw [ht] at hNk
                have HDN := Lib.hid (HDS.out ht)
                clear he ht HDS HPS
                go_wp2_with fail
                rw [HW1.out]
                refine (HCK.out _ hq0).mono ?_
                rintro e w3 ⟨rfl, hc3⟩
                go_wp2_with fail
                have hb0d : Below (wr.heap.size + 1) W1 w3.drew := hc3.drew
                go_region_held3 (fun w' => Below (wr.heap.size + 1) W1 w') (first | assumption | exact hb0d) (first | (go_at_call 58; ((with_reducible refine (HLY.out _ ?_).mono ?_); assumption); rintro e w4 ⟨rfl, hc4⟩))
                all_goals
                  clear p0 p1 p2 p3 p4 p5 p6
                  go_wp2_with fail
                  refine (HFI.out _ (by assumption)).mono ?_
                  rintro e w5 ⟨rfl, hc5⟩
                  go_wp2_with fail
                  go_roundw
                  case rel => exact ⟨k + 1, by omega, by go_num, by rw [← HN.out HEE.out]; exact HP.out, HDN.out, HBW.out _ hc5⟩
                  case measure => simp [intOf]; omega
        · obtain rfl : k = evs.length := by omega
          rw [HCME.out] at hp
          have HF := Lib.hid (posF_seen evs hdis)
          have HCM := Lib.hid (fun (k : Nat) (c : Cm) (w1 : World) (h : Below (w.heap.size + 1) W0 w1) (hk : cms[k]? = some c) => HCM0.out k c w1 (HB.out _ h) hk)
          rw [HF.out] at HCM
          generalize seenEv evs evs.length = FF at *
          clear hdis HCM0 HF HCK0 HFI0
          unfold cmsErr at hp
          rcases (show 64 < cms.length ∨ cms.length ≤ 64 by omega) with h4 | h4
          · rw [if_pos h4] at hp
            have HP := Lib.hid hp
            have h4d : decide ((64 : Int) < (cms.length : Int)) = true := by simp; omega
            clear hp
            go_wp2_with fail
            go_ret
            exact ⟨ret_int HP.out, hbw⟩
          · rw [if_neg (by omega)] at hp
            have HP0 := Lib.hid (show cmsFrom last FF evs (aheadOf cms 0) (cms.drop 0) = G from hp)
            have h4d : decide ((64 : Int) < (cms.length : Int)) = false := by simp; omega
            have HB9 := Lib.hid hb
            clear hp hbw
            go_wp2_with fail
            obtain ⟨wo, rfl⟩ : ∃ wo : World, wo = wr := ⟨_, rfl⟩
            go_loopw [72] (fun i wr => ∃ k : Nat, k ≤ cms.length ∧ i = .int .i64 k ∧ cmsFrom last FF evs (aheadOf cms k) (cms.drop k) = G ∧ Below (w.heap.size + 1) W0 wr) (fun i _ => cms.length - (intOf i).toNat)
            case atStart => exact ⟨0, by omega, rfl, HP0.out, HB9.out⟩
            case round =>
              obtain ⟨k, hk', rfl, hp, hb'⟩ := hrel
              clear HP0 HB9 hb
              by_cases hlt' : k < cms.length
              · have hck : cms[k]? = some cms[k] := List.getElem?_eq_getElem hlt'
                have HN := Lib.hid (cmsFrom_next last FF evs cms k cms[k] hck (aheadOf cms k))
                have HS := Lib.hid (cmsFrom_stop last FF evs cms k cms[k] hck (aheadOf cms k))
                have HC := Lib.hid (HCM.out k cms[k] wr hb' hck)
                have HP := Lib.hid hp
                clear hp hck
                generalize cmErr last FF evs (aheadOf cms k) cms[k] = E at *
                rcases (show (E != 0) = true ∨ E = 0 by by_cases h : E = 0 <;> simp [h]) with hE0 | rfl
                · go_wp2_with fail
                  refine HC.out.mono ?_
                  rintro e w4 ⟨rfl, hb4⟩
                  have hc4 := HT0.out _ _ hb' hb4
                  clear hb4
                  go_wp2_with fail
                  go_ret
                  exact ⟨ret_int (by rw [← HP.out, HS.out hE0]), HB.out _ hc4⟩
                · go_wp2_with fail
                  refine HC.out.mono ?_
                  rintro e w4 ⟨rfl, hb4⟩
                  have hc4 := HT0.out _ _ hb' hb4
                  clear hb4
                  go_wp2_with fail
                  go_roundw
                  case rel => exact ⟨k + 1, by omega, by go_num, by rw [← HN.out (by first | rfl | trivial)]; exact HP.out, hc4⟩
                  case measure => simp [intOf]; omega
              · obtain rfl : k = cms.length := by omega
                rw [List.drop_length] at hp
                have HP := Lib.hid (show (0 : Int) = G by rw [← hp]; cases aheadOf cms cms.length <;> rfl)
                clear hp
                go_wp2_with fail
                go_ret
                exact ⟨ret_int HP.out, HB.out _ hb'⟩


end Go.Proofs.YtdgakmpopgpijaaGreatDoor

/- The contracts of the reference's put and Events: the IDs of two documents, ascending. -/
namespace Go.Proofs.YtdgakmpopgpijaaGreatDoor
open Go.RowKit

/-- A number put into an ascending list. -/
def putL : List Int → Int → List Int
  | [], id => [id]
  | z :: l, id => if z < id then z :: putL l id else if z = id then z :: l else id :: z :: l
theorem putL_len (id : Int) : ∀ zs : List Int, zs.length ≤ (putL zs id).length ∧ (putL zs id).length ≤ zs.length + 1
  | [] => by simp [putL]
  | z :: l => by
    have := putL_len id l
    unfold putL
    repeat' split
    all_goals simp only [List.length_cons]; omega
theorem putL_less (zs : List Int) (id : Int) (k : Nat) (z : Int) (h : zs[k]? = some z) (hz : z < id) (hp : zs.take k ++ putL (zs.drop k) id = putL zs id) : zs.take (k + 1) ++ putL (zs.drop (k + 1)) id = putL zs id := by
  rw [← hp, drop_at zs k z h, putL, if_pos hz, List.take_add_one, h, List.append_assoc]
  rfl
theorem putL_eq (zs : List Int) (id : Int) (k : Nat) (h : zs[k]? = some id) (hp : zs.take k ++ putL (zs.drop k) id = putL zs id) : putL zs id = zs := by
  rw [← hp, drop_at zs k id h, putL, if_neg (by omega), if_pos rfl, ← drop_at zs k id h, List.take_append_drop]
theorem putL_new (zs : List Int) (id : Int) (k : Nat) (h : ∀ z, zs[k]? = some z → id < z) (hp : zs.take k ++ putL (zs.drop k) id = putL zs id) : putL zs id = zs.take k ++ [id] ++ zs.drop k := by
  rw [← hp]
  cases hz : zs[k]? with
  | none =>
    rw [List.drop_eq_nil_of_le (by simpa using hz)]
    simp [putL]
  | some z =>
    have := h z hz
    rw [drop_at zs k z hz, putL, if_neg (by omega), if_neg (by omega)]
    simp

/-- Where a source of append lies: nowhere, or at an address. -/
def Src (w : World) (v : Value) (m : Nat) (news : List Value) : Prop := (v = .slice none 0 0 ∧ m = 0 ∧ news = []) ∨ ∃ ad c, v = .slice (some ad) m c ∧ ∀ j u, news[j]? = some u → w.cell? (ad.add j) = some u
theorem step_src {P : Program} {ops : Array Oper} {o : Oper} {a : Act} {w : World} {K : Act → World → Prop} {Q : Exit → Act → World → Prop} {E : Prop} (hgd : o.guard = none) (s x : Operand) (t : TypeId)
    (ho : o.op = .call { callee := .builtin .append, args := #[s, x], argTypes := #[t, t] })
    (base : Nat) (e : TypeId) (i : TypeInfo) (z : Value) (size bytes : Nat) (ht : P.underlying t = some (.slice e)) (hi : P.info? e = some i) (hz : i.zero = some z)
    (hsize : i.size = size) (hby : i.bytes = bytes) (hzs : z.cells.size = size) (hsz : 0 < size)
    (v : Value) (n : Nat) (xs : List Value) (hs : a.eval s = v) (hown : w.ownsRow base e size v n xs)
    (src : Value) (m : Nat) (news : List Value) (hx : a.eval x = src) (hsrc : Src w src m news) (hl : news.length = m * size) (h1 : ∀ u ∈ news, u.oneCell' = true)
    (h63 : n + m ≤ maxLen) (hbytes : (n + m) * bytes ≤ 140737488355328) (hbase : base ≤ w.heap.size)
    (h : ∀ v' w', w'.ownsRow base e size v' (n + m) (xs ++ news) → w.grownBy w' v.ownBlock → K (a.put o.dst v') w') :
    if Region.wanted o (yielded ops a.tmps) = true then Oper.wp P o a w K Q else E := by
  have hw : Region.wanted o (yielded ops a.tmps) = true := by simp [Region.wanted, hgd]
  rw [if_pos hw]
  rcases hsrc with ⟨hn, rfl, rfl⟩ | ⟨ad, c, hn, hc⟩
  · subst hn
    have hr := run_append_owned_none (P := P) w base t o.type e i size ht hi v n xs hown
    unfold Oper.wp execOp
    simp only [ho, resolve, invoke, builtin, Sem.run_bind, Sem.run_pure, Result.andThen_ok, List.map_toArray, List.map_cons, List.map_nil, hs, hx, hr]
    exact h v w (by simpa using hown) ⟨rfl, rfl, rfl, Nat.le_refl _, fun _ _ _ => rfl⟩
  · exact wp_append_own w s x t ho base e i z size bytes ht hi hz hsize hby hzs hsz v n xs hs hown ad m c news (hx.trans hn) hl hc h1 h63 hbytes hbase fun v' w' h2 h3 _ => h v' w' h2 h3

theorem ints_one (zs : List Int) : ∀ u ∈ zs.map (Value.int .i64), u.oneCell' = true := by
  intro u hu
  obtain ⟨z, _, rfl⟩ := List.mem_map.1 hu
  rfl
theorem Ints.cells {w : World} {b off : Nat} {zs : List Int} (h : Ints w (some ⟨b, off, none⟩) zs) : ∀ (j : Nat) (u : Value), (zs.map (Value.int .i64))[j]? = some u → w.cell? ⟨b, off + j, none⟩ = some u := by
  intro j u hu
  rw [List.getElem?_map] at hu
  obtain ⟨z, hz, rfl⟩ := Option.map_eq_some_iff.1 hu
  rcases h with rfl | ⟨b', off', he, _, hcc⟩
  · simp at hz
  · simp only [Option.some.injEq, Addr.mk.injEq, and_true] at he
    obtain ⟨rfl, rfl⟩ := he
    have := (hcc j z hz).1 0 _ rfl
    rw [show off + j * 1 + 0 = off + j by omega] at this
    exact this
/-- A list of numbers that a call made, or none. -/
def IntsV (w : World) (v : Value) (zs : List Int) : Prop := (v = .slice none 0 0 ∧ zs = []) ∨ ∃ b off cap, v = .slice (some ⟨b, off, none⟩) zs.length cap ∧ b < w.heap.size ∧ zs.length ≤ cap ∧ cap ≤ 9223372036854775807 ∧ Ints w (some ⟨b, off, none⟩) zs
theorem IntsV.later {w w' : World} {v : Value} {zs : List Int} (h : IntsV w v zs) (hb : Below w.heap.size w w') : IntsV w' v zs := by
  rcases h with h | ⟨b, off, cap, h1, h2, h3, h5, h4⟩
  · exact .inl h
  · exact .inr ⟨b, off, cap, h1, Nat.lt_of_lt_of_le h2 hb.size, h3, h5, h4.later hb⟩
theorem IntsV.form {w : World} {v : Value} {zs : List Int} (h : IntsV w v zs) : ∃ a cap, v = .slice a zs.length cap ∧ Ints w a zs := by
  rcases h with ⟨rfl, rfl⟩ | ⟨b, off, cap, rfl, h2, h3, _, h4⟩
  · exact ⟨none, 0, rfl, .inl rfl⟩
  · exact ⟨_, cap, rfl, h4⟩
theorem IntsV.of_owns {w : World} {base : Nat} {v : Value} {zs : List Int} (h : w.ownsRow base 2 1 v zs.length (zs.map (Value.int .i64))) : IntsV w v zs := by
  have h' := h
  rcases h.2 with ⟨rfl, h0⟩ | ⟨g, cap, cur, rfl, hb, hg, hc, hm, _⟩
  · exact .inl ⟨rfl, List.eq_nil_of_length_eq_zero h0⟩
  · obtain ⟨a, c, he, hI⟩ := Ints.of_owns h'
    simp only [Value.slice.injEq] at he
    obtain ⟨rfl, _, rfl⟩ := he
    exact .inr ⟨g, 0, cap, rfl, (Array.getElem?_eq_some_iff.1 hg).1, hc, by simp only [maxLen] at hm; omega, hI⟩

def PutPost (zs : List Int) (w : World) (e : Ending) (w' : World) : Prop := ∃ v, e = .returned v ∧ IntsV w' v zs ∧ Below w.heap.size w w'

theorem src_new (w : World) (id : Int) : Src (w.alloc (.cells #[.int .i64 id] 2)) (.slice (some ⟨w.heap.size, 0, none⟩) 1 1) 1 [.int .i64 id] :=
  .inr ⟨_, _, rfl, fun j u hu => cells_new w #[.int .i64 id] 2 j u hu⟩
theorem src_kept {w w3 : World} {id : Int} {row : Option Nat} (h : (w.alloc (.cells #[.int .i64 id] 2)).grownBy w3 row) (g : Nat) (hg : row = none ∧ g = w.heap.size) : Src w3 (.slice (some ⟨g, 0, none⟩) 1 1) 1 [.int .i64 id] := by
  obtain ⟨rfl, rfl⟩ := hg
  refine .inr ⟨_, _, rfl, fun j u hu => ?_⟩
  have h0 := cells_new w #[.int .i64 id] 2 j u hu
  rw [Addr.add_lit] at h0 ⊢
  exact h.cell h0 (by simp)

set_option maxRecDepth 100000 in
set_option maxHeartbeats 6400000 in
theorem put_calls (v : Value) (zs : List Int) (id : Int) (w : World) (hI : IntsV w v zs) (hl : zs.length ≤ 8000000) :
    Calls Tryz.prog 60 #[v, .int .i64 id] w (PutPost (putL zs id) w) := by
  obtain ⟨j0, hj, hy0, hy1, hy2⟩ := info_parts Tryz.info2
  have JI := Lib.hid hj; have J0 := Lib.hid hy0; have J1 := Lib.hid hy1; have J2 := Lib.hid hy2
  clear hj hy0 hy1 hy2
  have mixed : Tryz.prog.follows Departure.mixedOrders = true := by kernel_rfl
  have HV0 := Lib.hid hI
  have H0 := Lib.hid (show zs.take 0 ++ putL (zs.drop 0) id = putL zs id by simp)
  have hD : Below w.heap.size w w.drew := (Below.refl _ _).drew
  have HDA := Lib.hid (fun o => (hD.alloc hD.size o : Below w.heap.size w (w.drew.alloc o)))
  have hb0 : Below w.heap.size w w := Below.refl _ _
  have FACTS := fun (k : Nat) (hk : k ≤ zs.length) (hn : ∀ z, zs[k]? = some z → id < z) (hp : zs.take k ++ putL (zs.drop k) id = putL zs id) =>
    (show (putL zs id).length = zs.length + 1 ∧ [] ++ (zs.take k).map (Value.int .i64) ++ [.int .i64 id] ++ (zs.drop k).map (Value.int .i64) = (putL zs id).map (Value.int .i64) by
      rw [putL_new zs id k hn hp]
      constructor
      · simp; omega
      · simp)
  rcases hI with ⟨rfl, rfl⟩ | ⟨b, off, cap, rfl, hbl, hcap, hcm, hIn⟩
  · have O3 := Lib.hid (show ∀ u ∈ [Value.int .i64 id], u.oneCell' = true by intro u hu; simp at hu; subst hu; rfl)
    have M2 := Lib.hid (show 0 + 1 ≤ maxLen by unfold maxLen; omega)
    have M3 := Lib.hid (show 0 + 1 + 0 ≤ maxLen by unfold maxLen; omega)
    clear FACTS H0
    rw [show putL [] id = [id] from rfl]
    go_enter Tryz.func60, Tryz.ntmps60
    go_wp2_with fail
    refine wp_loop_rounds 1 ?_
    rw [rounds_succ]
    go_wp2_with fail
    go_region_law_o (first
      | (refine step_src rfl (.tmp 38) (.tmp 40) 63 rfl w.heap.size 2 j0 _ 1 8 Tryz.underlying63 JI.out J0.out J1.out J2.out rfl (by decide) (.slice none 0 0) 0 [] (by go_simp) (World.ownsRow_nil _ _ _ _) (.slice (some ⟨w.heap.size, 0, none⟩) 1 1) 1 [.int .i64 id] (by go_simp) (src_new w.drew id) rfl O3.out M2.out (by omega) (HDA.out _).size ?_; intro v2 w4 hown2 hgrow2; have hb4 : Below w.heap.size w w4 := (HDA.out _).grown hgrow2 (HDA.out _).size (by intro j hj; simp [Value.ownBlock] at hj); have HO2 := Lib.hid hown2; have HLT2 := Lib.hid (fun j hj => (hown2.lt j hj).1); have HS4 := Lib.hid hb4.size; clear hown2 hgrow2)
      | (refine step_src rfl (.tmp 41) (.tmp 44) 63 rfl w.heap.size 2 j0 _ 1 8 Tryz.underlying63 JI.out J0.out J1.out J2.out rfl (by decide) v2 _ _ (by go_simp) HO2.out (.slice none 0 0) 0 [] (by go_simp) (.inl ⟨rfl, rfl, rfl⟩) rfl (by simp) M3.out (by omega) HS4.out ?_; intro v3 w5 hown3 hgrow3; have hb5 : Below w.heap.size w w5 := hb4.grown hgrow3 HS4.out HLT2.out; have HO3 := Lib.hid hown3; clear hown3 hgrow3))
    all_goals
      have hown := HO3.out
      have HV := Lib.hid (IntsV.of_owns (zs := [id]) hown)
      clear hown HO3
      obtain ⟨a5, c5, hv5, _⟩ := HV.out.form
      subst hv5
      go_wp2_with fail
      go_ret
      exact ⟨_, rfl, HV.out, hb5⟩
  · have HIN := Lib.hid hIn
    clear hIn
    go_enter Tryz.func60, Tryz.ntmps60
    go_wp2_with fail
    go_loop [5] (fun i => ∃ k : Nat, k ≤ zs.length ∧ i = .int .i64 k ∧ zs.take k ++ putL (zs.drop k) id = putL zs id) (fun i => zs.length - (intOf i).toNat)
    case atStart => exact ⟨0, by omega, rfl, H0.out⟩
    case round =>
      obtain ⟨k, hk, rfl, hp⟩ := hrel
      have HSS := Lib.hid (fun (hx : ∀ z, zs[k]? = some z → id < z) => FACTS k hk hx hp)
      have HS1 := Lib.hid (fun (w1 : World) (h : Below w.heap.size w w1) => (show Src w1 (.slice (some ⟨b, off, none⟩) k cap) k ((zs.take k).map (Value.int .i64)) from .inr ⟨_, _, rfl, fun j u hu => by
        rw [Addr.add_lit]
        refine (HIN.out.later h).cells j u ?_
        rw [← List.take_append_drop k zs, List.map_append, List.getElem?_append_left (List.getElem?_eq_some_iff.1 hu).1]
        exact hu⟩))
      obtain ⟨A, hA, hsA⟩ : ∃ A : Addr, (if cap = k then some (⟨b, off, none⟩ : Addr) else some ⟨b, off + k, none⟩) = some A ∧ Hid (∀ w1, Below w.heap.size w w1 → Src w1 (.slice (some A) (zs.length - k) (cap - k)) (zs.length - k) ((zs.drop k).map (Value.int .i64))) := by
        by_cases hq : cap = k
        · refine ⟨⟨b, off, none⟩, by simp [hq], fun w1 h => .inr ⟨_, _, rfl, fun j u hu => ?_⟩⟩
          have := (List.getElem?_eq_some_iff.1 hu).1
          simp at this
          omega
        · refine ⟨⟨b, off + k, none⟩, by simp [hq], fun w1 h => .inr ⟨_, _, rfl, fun j u hu => ?_⟩⟩
          rw [Addr.add_lit, show off + k + j = off + (k + j) by omega]
          refine (HIN.out.later h).cells (k + j) u ?_
          rw [List.getElem?_map] at hu ⊢
          rw [List.getElem?_drop] at hu
          exact hu
      have HS2 := hsA
      have L1 := Lib.hid (show ((zs.take k).map (Value.int .i64)).length = k * 1 by simp; omega)
      have L2 := Lib.hid (show ((zs.drop k).map (Value.int .i64)).length = (zs.length - k) * 1 by simp)
      have O1 := Lib.hid (ints_one (zs.take k))
      have O2 := Lib.hid (ints_one (zs.drop k))
      have M1 := Lib.hid (show 0 + k ≤ maxLen by unfold maxLen; omega)
      have M2 := Lib.hid (show 0 + k + 1 ≤ maxLen by unfold maxLen; omega)
      have M3 := Lib.hid (show 0 + k + 1 + (zs.length - k) ≤ maxLen by unfold maxLen; omega)
      have HNL := Lib.hid (show Value.ownBlock (.slice none 0 0) = none ∧ w.heap.size = w.drew.heap.size from ⟨rfl, rfl⟩)
      have O3 := Lib.hid (show ∀ u ∈ [Value.int .i64 id], u.oneCell' = true by intro u hu; simp at hu; subst hu; rfl)
      have hkc : k ≤ cap := by omega
      have hkn : (k : Int) ≤ (zs.length : Int) := by omega
      clear H0
      by_cases hlt : k < zs.length
      · obtain ⟨b', off', z, he, _, hz, hc, _⟩ := HIN.out.at_ hlt
        simp only [Option.some.injEq, Addr.mk.injEq, and_true] at he
        obtain ⟨rfl, rfl⟩ := he
        have d0 := hc 0 _ rfl
        simp only [Nat.add_zero, Nat.mul_one] at d0
        rcases (show z < id ∨ (id ≤ z ∧ decide (z < id) = false) by by_cases h : z < id <;> simp [h]; omega) with hlz | ⟨hlz, hld⟩
        · have HP := Lib.hid (putL_less zs id k z hz hlz hp)
          clear hp hc hz HSS FACTS
          go_wp2_with fail
          go_round
          case rel => exact ⟨k + 1, by omega, by go_num, HP.out⟩
          case measure => simp [intOf]; omega
        · rcases (show z = id ∨ (id < z ∧ (z == id) = false) by by_cases h : z = id <;> simp [h]; omega) with rfl | ⟨hgt, hne⟩
          · have HP := Lib.hid (putL_eq zs z k hz hp)
            clear hp hc hz HSS FACTS
            go_wp2_with fail
            go_ret
            exact ⟨_, rfl, by rw [HP.out]; exact HV0.out, hb0⟩
          · have hF := HSS.out (fun y hy => by rw [hz] at hy; obtain rfl : z = y := by simpa using hy
                                               exact hgt)
            have HLEN := Lib.hid hF.1
            have HJ := Lib.hid hF.2
            clear hp hc hz HSS FACTS hF
            go_wp2_with fail
            go_region_law_o (first
              | (refine step_src rfl (.tmp 34) (.tmp 37) 63 rfl w.heap.size 2 j0 _ 1 8 Tryz.underlying63 JI.out J0.out J1.out J2.out rfl (by decide) (.slice none 0 0) 0 [] (by go_simp) (World.ownsRow_nil _ _ _ _) (.slice (some ⟨b, off, none⟩) k cap) k ((zs.take k).map (Value.int .i64)) (by go_simp) (HS1.out _ hD) L1.out O1.out M1.out (by omega) hD.size ?_; intro v1 w3 hown1 hgrow1; have hb3 : Below w.heap.size w w3 := hD.grown hgrow1 hD.size (by intro j hj; simp [Value.ownBlock] at hj); have HO1 := Lib.hid hown1; have HLT1 := Lib.hid (fun j hj => (hown1.lt j hj).1); have HS3 := Lib.hid hb3.size; clear hown1 hgrow1)
              | (refine step_src rfl (.tmp 34) (.tmp 37) 63 rfl w.heap.size 2 j0 _ 1 8 Tryz.underlying63 JI.out J0.out J1.out J2.out rfl (by decide) (.slice none 0 0) 0 [] (by go_simp) (World.ownsRow_nil _ _ _ _) (.slice (some ⟨b, off, none⟩) k cap) k ((zs.take k).map (Value.int .i64)) (by go_simp) (HS1.out _ (HDA.out _)) L1.out O1.out M1.out (by omega) (HDA.out _).size ?_; intro v1 w3 hown1 hgrow1; have hb3 : Below w.heap.size w w3 := (HDA.out _).grown hgrow1 (HDA.out _).size (by intro j hj; simp [Value.ownBlock] at hj); have HO1 := Lib.hid hown1; have HSK := Lib.hid (src_kept (w := w.drew) hgrow1 w.heap.size HNL.out); have HLT1 := Lib.hid (fun j hj => (hown1.lt j hj).1); have HS3 := Lib.hid hb3.size; clear hown1 hgrow1)
              | (refine step_src rfl (.tmp 38) (.tmp 40) 63 rfl w.heap.size 2 j0 _ 1 8 Tryz.underlying63 JI.out J0.out J1.out J2.out rfl (by decide) v1 _ _ (by go_simp) HO1.out (.slice (some ⟨w.heap.size, 0, none⟩) 1 1) 1 [.int .i64 id] (by go_simp) HSK.out rfl O3.out M2.out (by omega) HS3.out ?_; intro v2 w4 hown2 hgrow2; have hb4 : Below w.heap.size w w4 := hb3.grown hgrow2 HS3.out HLT1.out; have HO2 := Lib.hid hown2; have HLT2 := Lib.hid (fun j hj => (hown2.lt j hj).1); have HS4 := Lib.hid hb4.size; clear hown2 hgrow2)
              | (refine step_src rfl (.tmp 38) (.tmp 40) 63 rfl w.heap.size 2 j0 _ 1 8 Tryz.underlying63 JI.out J0.out J1.out J2.out rfl (by decide) v1 _ _ (by go_simp) (HO1.out.alloc _) (.slice (some ⟨w3.heap.size, 0, none⟩) 1 1) 1 [.int .i64 id] (by go_simp) (src_new w3 id) rfl O3.out M2.out (by omega) (hb3.alloc HS3.out _).size ?_; intro v2 w4 hown2 hgrow2; have hb4 : Below w.heap.size w w4 := (hb3.alloc HS3.out _).grown hgrow2 (hb3.alloc HS3.out _).size HLT1.out; have HO2 := Lib.hid hown2; have HLT2 := Lib.hid (fun j hj => (hown2.lt j hj).1); have HS4 := Lib.hid hb4.size; clear hown2 hgrow2)
              | (refine step_src rfl (.tmp 41) (.tmp 44) 63 rfl w.heap.size 2 j0 _ 1 8 Tryz.underlying63 JI.out J0.out J1.out J2.out rfl (by decide) v2 _ _ (by go_simp) HO2.out (.slice (some A) (zs.length - k) (cap - k)) (zs.length - k) ((zs.drop k).map (Value.int .i64)) (by go_simp) (HS2.out _ hb4) L2.out O2.out M3.out (by omega) HS4.out ?_; intro v3 w5 hown3 hgrow3; have hb5 : Below w.heap.size w w5 := hb4.grown hgrow3 HS4.out HLT2.out; have HO3 := Lib.hid hown3; clear hown3 hgrow3))
            all_goals
              have hown := HO3.out
              rw [HJ.out, show 0 + k + 1 + (zs.length - k) = (putL zs id).length by rw [HLEN.out]; omega] at hown
              have HV := Lib.hid (IntsV.of_owns hown)
              clear hown HO3
              obtain ⟨a5, c5, hv5, _⟩ := HV.out.form
              subst hv5
              go_wp2_with fail
              go_ret
              exact ⟨_, rfl, HV.out, hb5⟩
      · have hke : k = zs.length := by omega
        have hF := HSS.out (fun y hy => by rw [hke] at hy; simp at hy)
        have hkd : decide ((k : Int) < (zs.length : Int)) = false := by simp; omega
        have hkd2 : decide (k < zs.length) = false := by simp; omega
        have hge : zs.length ≤ k := by omega
        have HLEN := Lib.hid hF.1
        have HJ := Lib.hid hF.2
        clear hp HSS FACTS hF hke
        go_wp2_with fail
        go_region_law_o (first
          | (refine step_src rfl (.tmp 34) (.tmp 37) 63 rfl w.heap.size 2 j0 _ 1 8 Tryz.underlying63 JI.out J0.out J1.out J2.out rfl (by decide) (.slice none 0 0) 0 [] (by go_simp) (World.ownsRow_nil _ _ _ _) (.slice (some ⟨b, off, none⟩) k cap) k ((zs.take k).map (Value.int .i64)) (by go_simp) (HS1.out _ hD) L1.out O1.out M1.out (by omega) hD.size ?_; intro v1 w3 hown1 hgrow1; have hb3 : Below w.heap.size w w3 := hD.grown hgrow1 hD.size (by intro j hj; simp [Value.ownBlock] at hj); have HO1 := Lib.hid hown1; have HLT1 := Lib.hid (fun j hj => (hown1.lt j hj).1); have HS3 := Lib.hid hb3.size; clear hown1 hgrow1)
          | (refine step_src rfl (.tmp 34) (.tmp 37) 63 rfl w.heap.size 2 j0 _ 1 8 Tryz.underlying63 JI.out J0.out J1.out J2.out rfl (by decide) (.slice none 0 0) 0 [] (by go_simp) (World.ownsRow_nil _ _ _ _) (.slice (some ⟨b, off, none⟩) k cap) k ((zs.take k).map (Value.int .i64)) (by go_simp) (HS1.out _ (HDA.out _)) L1.out O1.out M1.out (by omega) (HDA.out _).size ?_; intro v1 w3 hown1 hgrow1; have hb3 : Below w.heap.size w w3 := (HDA.out _).grown hgrow1 (HDA.out _).size (by intro j hj; simp [Value.ownBlock] at hj); have HO1 := Lib.hid hown1; have HSK := Lib.hid (src_kept (w := w.drew) hgrow1 w.heap.size HNL.out); have HLT1 := Lib.hid (fun j hj => (hown1.lt j hj).1); have HS3 := Lib.hid hb3.size; clear hown1 hgrow1)
          | (refine step_src rfl (.tmp 38) (.tmp 40) 63 rfl w.heap.size 2 j0 _ 1 8 Tryz.underlying63 JI.out J0.out J1.out J2.out rfl (by decide) v1 _ _ (by go_simp) HO1.out (.slice (some ⟨w.heap.size, 0, none⟩) 1 1) 1 [.int .i64 id] (by go_simp) HSK.out rfl O3.out M2.out (by omega) HS3.out ?_; intro v2 w4 hown2 hgrow2; have hb4 : Below w.heap.size w w4 := hb3.grown hgrow2 HS3.out HLT1.out; have HO2 := Lib.hid hown2; have HLT2 := Lib.hid (fun j hj => (hown2.lt j hj).1); have HS4 := Lib.hid hb4.size; clear hown2 hgrow2)
          | (refine step_src rfl (.tmp 38) (.tmp 40) 63 rfl w.heap.size 2 j0 _ 1 8 Tryz.underlying63 JI.out J0.out J1.out J2.out rfl (by decide) v1 _ _ (by go_simp) (HO1.out.alloc _) (.slice (some ⟨w3.heap.size, 0, none⟩) 1 1) 1 [.int .i64 id] (by go_simp) (src_new w3 id) rfl O3.out M2.out (by omega) (hb3.alloc HS3.out _).size ?_; intro v2 w4 hown2 hgrow2; have hb4 : Below w.heap.size w w4 := (hb3.alloc HS3.out _).grown hgrow2 (hb3.alloc HS3.out _).size HLT1.out; have HO2 := Lib.hid hown2; have HLT2 := Lib.hid (fun j hj => (hown2.lt j hj).1); have HS4 := Lib.hid hb4.size; clear hown2 hgrow2)
          | (refine step_src rfl (.tmp 41) (.tmp 44) 63 rfl w.heap.size 2 j0 _ 1 8 Tryz.underlying63 JI.out J0.out J1.out J2.out rfl (by decide) v2 _ _ (by go_simp) HO2.out (.slice (some A) (zs.length - k) (cap - k)) (zs.length - k) ((zs.drop k).map (Value.int .i64)) (by go_simp) (HS2.out _ hb4) L2.out O2.out M3.out (by omega) HS4.out ?_; intro v3 w5 hown3 hgrow3; have hb5 : Below w.heap.size w w5 := hb4.grown hgrow3 HS4.out HLT2.out; have HO3 := Lib.hid hown3; clear hown3 hgrow3))
        all_goals
          have hown := HO3.out
          rw [HJ.out, show 0 + k + 1 + (zs.length - k) = (putL zs id).length by rw [HLEN.out]; omega] at hown
          have HV := Lib.hid (IntsV.of_owns hown)
          clear hown HO3
          obtain ⟨a5, c5, hv5, _⟩ := HV.out.form
          subst hv5
          go_wp2_with fail
          go_ret
          exact ⟨_, rfl, HV.out, hb5⟩

end Go.Proofs.YtdgakmpopgpijaaGreatDoor

/- The contracts of the reference's Events, and of Start, the program's and the reference's. -/
namespace Go.Proofs.YtdgakmpopgpijaaGreatDoor
open Go.RowKit

/-- The IDs of events put into an ascending list. -/
def insAll : List Int → List Ev → List Int
  | zs, [] => zs
  | zs, x :: l => insAll (putL zs x.id) l

set_option maxRecDepth 100000 in
set_option maxHeartbeats 3200000 in
theorem events_calls (d d' : Doc) (w : World) (hr : EvsAt w d.ea d.evs) (hr' : EvsAt w d'.ea d'.evs) (hl : d.evs.length ≤ 4000000) (hl' : d'.evs.length ≤ 4000000) :
    Calls Tryz.prog 35 #[.agg d.enc.toArray, .agg d'.enc.toArray] w (PutPost (insAll (insAll [] d.evs) d'.evs) w) := by
  have HEV := Lib.hid hr
  have HEV' := Lib.hid hr'
  have HQ := Lib.hid (fun (v : Value) (w' : World) (h : IntsV w' v (insAll (insAll [] d.evs) d'.evs)) (hb : Below w.heap.size w w') => (show PutPost (insAll (insAll [] d.evs) d'.evs) w (.returned v) w' from ⟨v, rfl, h, hb⟩))
  generalize PutPost (insAll (insAll [] d.evs) d'.evs) w = Q at *
  obtain ⟨title, lang, rate, drop, last, ra, rc, regs, ea, ec, evs, ca, cc, cms⟩ := d
  obtain ⟨title', lang', rate', drop', last', ra', rc', regs', ea', ec', evs', ca', cc', cms'⟩ := d'
  simp only at HEV HEV' hl hl' HQ
  simp only [Doc.enc]
  have HZ := Lib.hid (show insAll [] (evs.drop 0) = insAll [] evs from rfl)
  generalize insAll [] evs = Z1 at *
  have HZ2 := Lib.hid (show insAll Z1 (evs'.drop 0) = insAll Z1 evs' from rfl)
  generalize insAll Z1 evs' = Z2 at *
  clear hr hr'
  generalize hds : #[Value.string title, .string lang, .int .u8 rate, .bool drop, .int .i64 last, .slice ra regs.length rc, .slice ea evs.length ec, .slice ca cms.length cc] = ds at *
  generalize hes : #[Value.string title', .string lang', .int .u8 rate', .bool drop', .int .i64 last', .slice ra' regs'.length rc', .slice ea' evs'.length ec', .slice ca' cms'.length cc'] = es at *
  have f6 := box2_fst w ds es 28 28 6 (.slice ea evs.length ec) (by rw [← hds]; rfl)
  have g6 := box2_snd w ds es 28 28 6 (.slice ea' evs'.length ec') (by rw [← hes]; rfl)
  have HB := Lib.hid (fun (w1 : World) (h : Below (w.heap.size + 2) ((w.alloc (.cells ds 28)).alloc (.cells es 28)) w1) => box2_below h)
  have hb0 : Below (w.heap.size + 2) ((w.alloc (.cells ds 28)).alloc (.cells es 28)) ((w.alloc (.cells ds 28)).alloc (.cells es 28)) := Below.refl _ _
  have hsz : ((w.alloc (.cells ds 28)).alloc (.cells es 28)).heap.size = w.heap.size + 2 := by simp
  generalize hW0 : (w.alloc (.cells ds 28)).alloc (.cells es 28) = W0 at *
  have HW0 := Lib.hid hW0
  have HLT := Lib.hid (fun (w1 : World) (h : Below (w.heap.size + 2) W0 w1) => (show w.heap.size + 2 ≤ w1.heap.size by have := h.size; rw [hsz] at this; exact this))
  have HT0 := Lib.hid (fun (w2 w3 : World) (h : Below (w.heap.size + 2) W0 w2) (h3 : Below w2.heap.size w2 w3) => h.trans (h3.mono (HLT.out _ h)))
  clear hW0 hsz
  go_enter Tryz.func35, Tryz.ntmps35
  subst hds
  subst hes
  go_wp2_with fail
  rw [HW0.out]
  go_loopw [5, 13] (fun v i wr => ∃ (k : Nat) (zs : List Int), k ≤ evs.length ∧ i = .int .i64 k ∧ IntsV wr v zs ∧ zs.length ≤ k ∧ insAll zs (evs.drop k) = Z1 ∧ Below (w.heap.size + 2) W0 wr) (fun _ i _ => evs.length - (intOf i).toNat)
  case atStart => exact ⟨0, [], by omega, rfl, .inl ⟨rfl, rfl⟩, by simp, HZ.out, hb0⟩
  case round =>
    obtain ⟨k, zs, hk, rfl, hI, hzl, hp, hb⟩ := hrel
    clear HZ hb0
    by_cases hlt : k < evs.length
    · obtain ⟨b, off, x, he, hbl, hxk, hc, _⟩ := (HEV.out.later (HB.out _ hb)).at_ hlt
      rw [drop_at evs k x hxk, insAll] at hp
      obtain ⟨xid, xin, xout, xreg, xkind, xsp, xa, xc, xrows⟩ := x
      have d0 := hc 0 _ rfl; have d1 := hc 1 _ rfl; have d2 := hc 2 _ rfl; have d3 := hc 3 _ rfl; have d4 := hc 4 _ rfl; have d5 := hc 5 _ rfl; have d6 := hc 6 _ rfl
      simp only [Nat.add_zero] at d0 d1 d2 d3 d4 d5 d6 hp
      subst he
      have HBA := Lib.hid (fun o => (hb.alloc (HLT.out _ hb) o : Below (w.heap.size + 2) W0 (wr.alloc o)))
      have HPU := Lib.hid (fun o => put_calls _ zs xid (wr.alloc o) (hI.later ((Below.refl wr.heap.size wr).alloc (Nat.le_refl _) o)) (by omega))
      have hln := putL_len xid zs
      have HP := Lib.hid hp
      clear hc hxk hp hI
      generalize putL zs xid = ys at *
      go_wp2_with fail
      refine (HPU.out _).mono ?_
      rintro e w5 ⟨v5, rfl, hI5, hb5⟩
      have hc5 := HT0.out _ _ (HBA.out _) hb5
      have HI5 := Lib.hid hI5
      clear hb5 hI5 HPU
      go_wp2_with fail
      go_roundw
      case rel => exact ⟨k + 1, ys, by omega, by go_num, HI5.out, by omega, HP.out, hc5⟩
      case measure => simp [intOf]; omega
    · obtain rfl : k = evs.length := by omega
      rw [List.drop_length, insAll] at hp
      subst hp
      have HBB := Lib.hid hb
      have HII := Lib.hid hI
      clear hlt hk hI
      go_wp2_with fail
      obtain ⟨wo, rfl⟩ : ∃ wo : World, wo = wr := ⟨_, rfl⟩
      clear hb
      go_loopw [5, 25] (fun v i wr => ∃ (k : Nat) (ys : List Int), k ≤ evs'.length ∧ i = .int .i64 k ∧ IntsV wr v ys ∧ ys.length ≤ evs.length + k ∧ insAll ys (evs'.drop k) = Z2 ∧ Below (w.heap.size + 2) W0 wr) (fun _ i _ => evs'.length - (intOf i).toNat)
      case atStart => exact ⟨0, zs, by omega, rfl, HII.out, by omega, HZ2.out, HBB.out⟩
      case round =>
        clear hzl
        obtain ⟨k, zs', hk, rfl, hI, hzl, hp, hb⟩ := hrel
        clear HZ2 HBB HII
        by_cases hlt : k < evs'.length
        · obtain ⟨b, off, x, he, hbl, hxk, hc, _⟩ := (HEV'.out.later (HB.out _ hb)).at_ hlt
          rw [drop_at evs' k x hxk, insAll] at hp
          obtain ⟨xid, xin, xout, xreg, xkind, xsp, xa, xc, xrows⟩ := x
          have d0 := hc 0 _ rfl; have d1 := hc 1 _ rfl; have d2 := hc 2 _ rfl; have d3 := hc 3 _ rfl; have d4 := hc 4 _ rfl; have d5 := hc 5 _ rfl; have d6 := hc 6 _ rfl
          simp only [Nat.add_zero] at d0 d1 d2 d3 d4 d5 d6 hp
          subst he
          have HBA := Lib.hid (fun o => (hb.alloc (HLT.out _ hb) o : Below (w.heap.size + 2) W0 (wr.alloc o)))
          have HPU := Lib.hid (fun o => put_calls _ zs' xid (wr.alloc o) (hI.later ((Below.refl wr.heap.size wr).alloc (Nat.le_refl _) o)) (by omega))
          have hln := putL_len xid zs'
          have HP := Lib.hid hp
          clear hc hxk hp hI
          generalize putL zs' xid = ys at *
          go_wp2_with fail
          refine (HPU.out _).mono ?_
          rintro e w5 ⟨v5, rfl, hI5, hb5⟩
          have hc5 := HT0.out _ _ (HBA.out _) hb5
          have HI5 := Lib.hid hI5
          clear hb5 hI5 HPU
          go_wp2_with fail
          go_roundw
          case rel => exact ⟨k + 1, ys, by omega, by go_num, HI5.out, by omega, HP.out, hc5⟩
          case measure => simp [intOf]; omega
        · obtain rfl : k = evs'.length := by omega
          rw [List.drop_length, insAll] at hp
          subst hp
          have HFIN := Lib.hid (HQ.out _ _ hI (HB.out _ hb))
          obtain ⟨a5, c5, hv5, _⟩ := hI.form
          subst hv5
          clear hI
          go_wp2_with fail
          exact HFIN.out

/-- The link of a new event. -/
def newLk (z : Int) : List Lk := [⟨z, 0, 3⟩]
theorem newLk_one (z : Int) : (newLk z).length ≤ 1 := Nat.le_refl _
theorem insAll_len : ∀ (evs : List Ev) (zs : List Int), (insAll zs evs).length ≤ zs.length + evs.length
  | [], zs => by simp [insAll]
  | x :: l, zs => by
    have h1 := insAll_len l (putL zs x.id)
    have h2 := putL_len x.id zs
    simp only [insAll, List.length_cons]
    omega

set_option maxRecDepth 100000 in
set_option maxHeartbeats 3200000 in
theorem start_calls (d : Doc) (w : World) (hE : Env w) (hd : d.lies w) (hf : d.fits) :
    Calls Tryz.prog 20 #[.agg d.enc.toArray] w (SetPost (docErr d) ((sortI (idsOf d.evs)).flatMap newLk) w) := by
  have hD1 := fun (w1 : World) (h : Below w.heap.size w w1) => docCheck_calls d w1 (hE.below h (Nat.le_refl _)) (Doc.later hd h) hf
  have hID := fun (w1 : World) (h : Below w.heap.size w w1) => (sorted_calls d w1 (hd.2.1.later h) hf.2.2.2.2.2.2.2.2.1).mono (fun e w' (q : SortedPost d.evs w1 e w') => (show ∃ a c, e = .returned (.slice a (sortI (idsOf d.evs)).length c) ∧ Ints w' a (sortI (idsOf d.evs)) ∧ Below w1.heap.size w1 w' from (by obtain ⟨a, c, h1, h2, h3⟩ := q; exact ⟨a, c, by rw [sortI_len]; simpa [idsOf] using h1, h2, h3⟩)))
  have hlz : (sortI (idsOf d.evs)).length ≤ 8000000 := by rw [sortI_len]; have := hf.2.2.2.2.2.2.2.2.1; simp [idsOf]; omega
  generalize sortI (idsOf d.evs) = Z at *
  by_cases h0 : docErr d = 0
  · rw [h0] at hD1 ⊢
    have HQ := Lib.hid (fun (v : Value) (w' : World) (h : ∃ a c, v = .slice a (Z.flatMap newLk).length c ∧ LksAt w' a (Z.flatMap newLk)) (hb : Below w.heap.size w w') => (show SetPost 0 (Z.flatMap newLk) w (.returned (.tuple #[v, .int .i64 0])) w' from ⟨⟨v, rfl, fun h => absurd rfl h, fun _ => h⟩, hb⟩))
    generalize SetPost 0 (Z.flatMap newLk) w = Q at *
    have HD1 := Lib.hid hD1; have HID := Lib.hid hID
    clear hD1 hID hE hd hf h0
    obtain ⟨title, lang, rate, drop, last, ra, rc, regs, ea, ec, evs, ca, cc, cms⟩ := d
    simp only [Doc.enc] at HD1 HID ⊢
    generalize hds : #[Value.string title, .string lang, .int .u8 rate, .bool drop, .int .i64 last, .slice ra regs.length rc, .slice ea evs.length ec, .slice ca cms.length cc] = ds at *
    have f0 := box_cell w ds 28 0 (.string title) (by rw [← hds]; rfl)
    have f1 := box_cell w ds 28 1 (.string lang) (by rw [← hds]; rfl)
    have f2 := box_cell w ds 28 2 (.int .u8 rate) (by rw [← hds]; rfl)
    have f3 := box_cell w ds 28 3 (.bool drop) (by rw [← hds]; rfl)
    have f4 := box_cell w ds 28 4 (.int .i64 last) (by rw [← hds]; rfl)
    have f5 := box_cell w ds 28 5 (.slice ra regs.length rc) (by rw [← hds]; rfl)
    have f6 := box_cell w ds 28 6 (.slice ea evs.length ec) (by rw [← hds]; rfl)
    have f7 := box_cell w ds 28 7 (.slice ca cms.length cc) (by rw [← hds]; rfl)
    have HB := Lib.hid (fun (w1 : World) (h : Below (w.heap.size + 1) (w.alloc (.cells ds 28)) w1) => box_below h)
    have hb0 : Below (w.heap.size + 1) (w.alloc (.cells ds 28)) (w.alloc (.cells ds 28)) := Below.refl _ _
    have hsz : (w.alloc (.cells ds 28)).heap.size = w.heap.size + 1 := World.size_alloc _ _
    generalize hW0 : w.alloc (.cells ds 28) = W0 at *
    have HW0 := Lib.hid hW0
    have HLT := Lib.hid (fun (w1 : World) (h : Below (w.heap.size + 1) W0 w1) => (show w.heap.size + 1 ≤ w1.heap.size by have := h.size; rw [hsz] at this; exact this))
    have HT0 := Lib.hid (fun (w2 w3 : World) (h : Below (w.heap.size + 1) W0 w2) (h3 : Below w2.heap.size w2 w3) => h.trans (h3.mono (HLT.out _ h)))
    clear hW0 hsz
    obtain ⟨j0, hj, hy0, hy1, hy2⟩ := info_parts Tryz.info49
    have JI := Lib.hid hj; have J0 := Lib.hid hy0; have J1 := Lib.hid hy1; have J2 := Lib.hid hy2
    clear hj hy0 hy1 hy2
    go_enter Tryz.func20, Tryz.ntmps20
    subst hds
    go_wp2_with fail
    rw [HW0.out]
    refine (HD1.out _ (HB.out _ hb0)).mono ?_
    rintro e w1 ⟨rfl, hb1⟩
    have hc1 := HT0.out _ _ hb0 hb1
    clear hb1 HD1
    go_wp2_with fail
    refine (HID.out _ (HB.out _ hc1)).mono ?_
    rintro e w2 ⟨a, c, rfl, hI, hb2⟩
    have hc2 := HT0.out _ _ hc1 hb2
    have HI := Lib.hid hI
    clear hb2 hI HID hc1
    go_wp2_with fail
    go_loopw [5, 16] (fun v i wr => ∃ k : Nat, k ≤ Z.length ∧ i = .int .i64 k ∧ OwnLk newLk [] Z w2.heap.size w2 k v wr) (fun _ i _ => Z.length - (intOf i).toNat)
    case atStart => exact ⟨0, by omega, rfl, World.ownsRow_nil _ _ _ _, Below.refl _ _⟩
    case round =>
      obtain ⟨k, hk, rfl, hown, hb2⟩ := hrel
      have hb := HT0.out _ _ hc2 hb2
      rw [List.nil_append] at hown
      have hlk := upTo_len newLk newLk_one Z k
      have hbs := HLT.out _ hb
      by_cases hlt : k < Z.length
      · obtain ⟨b, off, z, rfl, hbl, hzk, hc, _⟩ := (HI.out.later hb2).at_ hlt
        have HAT := Lib.hid (upTo_at newLk Z k z hzk)
        have HLT1 := Lib.hid (fun j hj => (hown.lt j hj).1)
        have d0 := hc 0 _ rfl
        simp only [Nat.add_zero, Nat.mul_one] at d0
        have hsz2 := hb2.size
        clear hc hzk
        go_wp2_with (at_builtin; refine wpList_append_new _ _ rfl (.tmp 20) (.tmp 23) 22 rfl w2.heap.size 49 j0 _ 3 24 Tryz.underlying22 JI.out J0.out J1.out J2.out rfl (by decide) _ _ _ rfl hown _ rfl rfl rfl ?h1 ?h63 ?hb ?hbase ?_)
        case h1 => first | rfl | exact ⟨rfl, rfl, rfl⟩ | (intro u hu; simp at hu; rcases hu with rfl | rfl | rfl <;> rfl)
        case h63 => unfold maxLen; omega
        case hb => omega
        case hbase => omega
        intro v' w6 hown' hgrow
        have R : OwnLk newLk [] Z w2.heap.size w2 (k + 1) v' w6 := by
          refine ⟨?_, (hb2.alloc hsz2 _).grown hgrow (by simp; omega) (fun j hj => HLT1.out j hj)⟩
          rw [List.nil_append, HAT.out]
          simpa [Lk.enc, newLk] using hown'
        clear hown' hgrow hown
        go_wp2_with fail
        go_roundw
        case rel => exact ⟨k + 1, by omega, by go_num, R⟩
        case measure => simp [intOf]; omega
      · obtain rfl : k = Z.length := by omega
        rw [upTo_all] at hown
        have hy := Lks.of_owns hown
        have HFIN := Lib.hid (HQ.out _ wr hy (HB.out _ hb))
        obtain ⟨a5, c5, hv5, _⟩ := hy
        subst hv5
        clear hown
        go_wp2_with fail
        exact HFIN.out
  · have hz : (docErr d != 0) = true := by simpa using h0
    have HBD := Lib.hid (fun (w' : World) (hb : Below w.heap.size w w') => SetPost.bad (E := docErr d) (ys := Z.flatMap newLk) h0 hb)
    generalize SetPost (docErr d) (Z.flatMap newLk) w = Q at *
    generalize docErr d = E at *
    have HD1 := Lib.hid hD1
    clear hD1 hID hE hd hf h0
    obtain ⟨title, lang, rate, drop, last, ra, rc, regs, ea, ec, evs, ca, cc, cms⟩ := d
    simp only [Doc.enc] at HD1 ⊢
    have HB1 := Lib.hid (fun o => ((Below.refl w.heap.size w).alloc (Nat.le_refl _) o))
    go_enter Tryz.func20, Tryz.ntmps20
    go_wp2_with fail
    refine (HD1.out _ (HB1.out _)).mono ?_
    rintro e w1 ⟨rfl, hb1⟩
    rw [World.size_alloc] at hb1
    have hc1 := box_below hb1
    clear hb1
    go_wp2_with fail
    exact HBD.out _ hc1

set_option maxRecDepth 100000 in
set_option maxHeartbeats 3200000 in
theorem refStart_calls (d : Doc) (w : World) (hE : Env w) (hd : d.lies w) (hf : d.fits) :
    Calls Tryz.prog 21 #[.agg d.enc.toArray] w (SetPost (docErr d) ((insAll (insAll [] d.evs) d.evs).flatMap newLk) w) := by
  have hD1 := fun (w1 : World) (h : Below w.heap.size w w1) => refDocCheck_calls d w1 (hE.below h (Nat.le_refl _)) (Doc.later hd h) hf
  have hID := fun (w1 : World) (h : Below w.heap.size w w1) => (events_calls d d w1 (hd.2.1.later h) (hd.2.1.later h) hf.2.2.2.2.2.2.2.2.1 hf.2.2.2.2.2.2.2.2.1).mono (fun e w' (q : PutPost (insAll (insAll [] d.evs) d.evs) w1 e w') => (show ∃ a c, e = .returned (.slice a (insAll (insAll [] d.evs) d.evs).length c) ∧ Ints w' a (insAll (insAll [] d.evs) d.evs) ∧ Below w1.heap.size w1 w' from (by obtain ⟨v, h1, h2, h3⟩ := q; obtain ⟨a, c, rfl, h4⟩ := h2.form; exact ⟨a, c, h1, h4, h3⟩)))
  have hlz : (insAll (insAll [] d.evs) d.evs).length ≤ 8000000 := by have h1 := insAll_len d.evs (insAll [] d.evs); have h2 := insAll_len d.evs []; have := hf.2.2.2.2.2.2.2.2.1; simp at h2; omega
  generalize insAll (insAll [] d.evs) d.evs = Z at *
  by_cases h0 : docErr d = 0
  · rw [h0] at hD1 ⊢
    have HQ := Lib.hid (fun (v : Value) (w' : World) (h : ∃ a c, v = .slice a (Z.flatMap newLk).length c ∧ LksAt w' a (Z.flatMap newLk)) (hb : Below w.heap.size w w') => (show SetPost 0 (Z.flatMap newLk) w (.returned (.tuple #[v, .int .i64 0])) w' from ⟨⟨v, rfl, fun h => absurd rfl h, fun _ => h⟩, hb⟩))
    generalize SetPost 0 (Z.flatMap newLk) w = Q at *
    have HD1 := Lib.hid hD1; have HID := Lib.hid hID
    clear hD1 hID hE hd hf h0
    obtain ⟨title, lang, rate, drop, last, ra, rc, regs, ea, ec, evs, ca, cc, cms⟩ := d
    simp only [Doc.enc] at HD1 HID ⊢
    generalize hds : #[Value.string title, .string lang, .int .u8 rate, .bool drop, .int .i64 last, .slice ra regs.length rc, .slice ea evs.length ec, .slice ca cms.length cc] = ds at *
    have f0 := box_cell w ds 28 0 (.string title) (by rw [← hds]; rfl)
    have f1 := box_cell w ds 28 1 (.string lang) (by rw [← hds]; rfl)
    have f2 := box_cell w ds 28 2 (.int .u8 rate) (by rw [← hds]; rfl)
    have f3 := box_cell w ds 28 3 (.bool drop) (by rw [← hds]; rfl)
    have f4 := box_cell w ds 28 4 (.int .i64 last) (by rw [← hds]; rfl)
    have f5 := box_cell w ds 28 5 (.slice ra regs.length rc) (by rw [← hds]; rfl)
    have f6 := box_cell w ds 28 6 (.slice ea evs.length ec) (by rw [← hds]; rfl)
    have f7 := box_cell w ds 28 7 (.slice ca cms.length cc) (by rw [← hds]; rfl)
    have HB := Lib.hid (fun (w1 : World) (h : Below (w.heap.size + 1) (w.alloc (.cells ds 28)) w1) => box_below h)
    have hb0 : Below (w.heap.size + 1) (w.alloc (.cells ds 28)) (w.alloc (.cells ds 28)) := Below.refl _ _
    have hsz : (w.alloc (.cells ds 28)).heap.size = w.heap.size + 1 := World.size_alloc _ _
    generalize hW0 : w.alloc (.cells ds 28) = W0 at *
    have HW0 := Lib.hid hW0
    have HLT := Lib.hid (fun (w1 : World) (h : Below (w.heap.size + 1) W0 w1) => (show w.heap.size + 1 ≤ w1.heap.size by have := h.size; rw [hsz] at this; exact this))
    have HT0 := Lib.hid (fun (w2 w3 : World) (h : Below (w.heap.size + 1) W0 w2) (h3 : Below w2.heap.size w2 w3) => h.trans (h3.mono (HLT.out _ h)))
    clear hW0 hsz
    obtain ⟨j0, hj, hy0, hy1, hy2⟩ := info_parts Tryz.info49
    have JI := Lib.hid hj; have J0 := Lib.hid hy0; have J1 := Lib.hid hy1; have J2 := Lib.hid hy2
    clear hj hy0 hy1 hy2
    go_enter Tryz.func21, Tryz.ntmps21
    subst hds
    go_wp2_with fail
    rw [HW0.out]
    refine (HD1.out _ (HB.out _ hb0)).mono ?_
    rintro e w1 ⟨rfl, hb1⟩
    have hc1 := HT0.out _ _ hb0 hb1
    clear hb1 HD1
    go_wp2_with fail
    refine (HID.out _ (HB.out _ hc1)).mono ?_
    rintro e w2 ⟨a, c, rfl, hI, hb2⟩
    have hc2 := HT0.out _ _ hc1 hb2
    have HI := Lib.hid hI
    clear hb2 hI HID hc1
    go_wp2_with fail
    go_loopw [5, 17] (fun v i wr => ∃ k : Nat, k ≤ Z.length ∧ i = .int .i64 k ∧ OwnLk newLk [] Z w2.heap.size w2 k v wr) (fun _ i _ => Z.length - (intOf i).toNat)
    case atStart => exact ⟨0, by omega, rfl, World.ownsRow_nil _ _ _ _, Below.refl _ _⟩
    case round =>
      obtain ⟨k, hk, rfl, hown, hb2⟩ := hrel
      have hb := HT0.out _ _ hc2 hb2
      rw [List.nil_append] at hown
      have hlk := upTo_len newLk newLk_one Z k
      have hbs := HLT.out _ hb
      by_cases hlt : k < Z.length
      · obtain ⟨b, off, z, rfl, hbl, hzk, hc, _⟩ := (HI.out.later hb2).at_ hlt
        have HAT := Lib.hid (upTo_at newLk Z k z hzk)
        have HLT1 := Lib.hid (fun j hj => (hown.lt j hj).1)
        have d0 := hc 0 _ rfl
        simp only [Nat.add_zero, Nat.mul_one] at d0
        have hsz2 := hb2.size
        clear hc hzk
        go_wp2_with (at_builtin; refine wpList_append_new _ _ rfl (.tmp 21) (.tmp 24) 22 rfl w2.heap.size 49 j0 _ 3 24 Tryz.underlying22 JI.out J0.out J1.out J2.out rfl (by decide) _ _ _ rfl hown _ rfl rfl rfl ?h1 ?h63 ?hb ?hbase ?_)
        case h1 => first | rfl | exact ⟨rfl, rfl, rfl⟩ | (intro u hu; simp at hu; rcases hu with rfl | rfl | rfl <;> rfl)
        case h63 => unfold maxLen; omega
        case hb => omega
        case hbase => omega
        intro v' w6 hown' hgrow
        have R : OwnLk newLk [] Z w2.heap.size w2 (k + 1) v' w6 := by
          refine ⟨?_, (hb2.alloc hsz2 _).grown hgrow (by simp; omega) (fun j hj => HLT1.out j hj)⟩
          rw [List.nil_append, HAT.out]
          simpa [Lk.enc, newLk] using hown'
        clear hown' hgrow hown
        go_wp2_with fail
        go_roundw
        case rel => exact ⟨k + 1, by omega, by go_num, R⟩
        case measure => simp [intOf]; omega
      · obtain rfl : k = Z.length := by omega
        rw [upTo_all] at hown
        have hy := Lks.of_owns hown
        have HFIN := Lib.hid (HQ.out _ wr hy (HB.out _ hb))
        obtain ⟨a5, c5, hv5, _⟩ := hy
        subst hv5
        clear hown
        go_wp2_with fail
        exact HFIN.out
  · have hz : (docErr d != 0) = true := by simpa using h0
    have HBD := Lib.hid (fun (w' : World) (hb : Below w.heap.size w w') => SetPost.bad (E := docErr d) (ys := Z.flatMap newLk) h0 hb)
    generalize SetPost (docErr d) (Z.flatMap newLk) w = Q at *
    generalize docErr d = E at *
    have HD1 := Lib.hid hD1
    clear hD1 hID hE hd hf h0
    obtain ⟨title, lang, rate, drop, last, ra, rc, regs, ea, ec, evs, ca, cc, cms⟩ := d
    simp only [Doc.enc] at HD1 ⊢
    have HB1 := Lib.hid (fun o => ((Below.refl w.heap.size w).alloc (Nat.le_refl _) o))
    go_enter Tryz.func21, Tryz.ntmps21
    go_wp2_with fail
    refine (HD1.out _ (HB1.out _)).mono ?_
    rintro e w1 ⟨rfl, hb1⟩
    rw [World.size_alloc] at hb1
    have hc1 := box_below hb1
    clear hb1
    go_wp2_with fail
    exact HBD.out _ hc1



end Go.Proofs.YtdgakmpopgpijaaGreatDoor
