/- The contract of align.Set: the links with a target set, or the error. -/
import Derived.Test.YtdgakmpopgpijaaGreatDoorSetPlain
set_option linter.unusedVariables false
namespace Go.Proofs.YtdgakmpopgpijaaGreatDoor
open Go.RowKit

theorem setErr_at {xs : List Lk} {id tgt : Int} {k : Nat} {x : Lk} (h1 : formB xs = true) (h2 : posOf (hasTpl id) xs = k) (h3 : xs[k]? = some x) : setErr xs id tgt = if tgt < 1 then 2 else if 1099511627776 < tgt then 2 else if x.st = 4 then 17 else if other k tgt xs 0 = true then 7 else 0 := by
  unfold setErr
  rw [if_neg (by rw [h1]; decide), h2, if_neg (by omega), show ((k : Int)).toNat = k by omega, h3]
theorem ownForm {w : World} {base e size n : Nat} {v : Value} {xs : List Value} (h : w.ownsRow base e size v n xs) (hn : 0 < n) : ∃ g cap, v = .slice (some ⟨g, 0, none⟩) n cap := by
  rcases h.2 with ⟨_, h0⟩ | ⟨g, cap, _, h1, _⟩
  · omega
  · exact ⟨g, cap, h1⟩
theorem lk_cell {w : World} {base g cap : Nat} {xs : List Lk} (h : w.ownsRow base 49 3 (.slice (some ⟨g, 0, none⟩) xs.length cap) xs.length (xs.flatMap Lk.enc)) {k : Nat} {x : Lk} (hx : xs[k]? = some x) (j : Nat) (v : Value) (hv : x.enc[j]? = some v) : w.cell? ⟨g, k * 3 + j, none⟩ = some v := by
  have hk : k < xs.length := (List.getElem?_eq_some_iff.1 hx).1
  have hj : j < 3 := (List.getElem?_eq_some_iff.1 hv).1
  rw [h.cellAt (k * 3 + j) (by omega)]
  exact flat_at Lk.enc 3 (fun _ => rfl) xs k x j v hx hv
/-- Behind the two stores of Set. -/
theorem set_stored {w : World} {base g cap : Nat} {xs : List Lk} (h : w.ownsRow base 49 3 (.slice (some ⟨g, 0, none⟩) xs.length cap) xs.length (xs.flatMap Lk.enc)) {k : Nat} {x : Lk} (hx : xs[k]? = some x) (tgt : Int) (hb : base ≤ w.heap.size) :
    LksAt ((w.setCell ⟨g, k * 3 + 1, none⟩ (.int .i64 tgt)).setCell ⟨g, k * 3 + 2, none⟩ (.int .u8 1)) (some ⟨g, 0, none⟩) (setLks xs k tgt) ∧ Below base w ((w.setCell ⟨g, k * 3 + 1, none⟩ (.int .i64 tgt)).setCell ⟨g, k * 3 + 2, none⟩ (.int .u8 1)) := by
  have h1 := h.stored (k * 3 + 1) (.int .i64 tgt)
  have h2 := h1.1.stored (k * 3 + 2) (.int .u8 1)
  have hg : base ≤ g := (h.lt g rfl).1
  refine ⟨?_, ((Below.refl base w).grown h1.2 hb (fun j hj => by simp at hj; omega)).grown h2.2 (by simpa using hb) (fun j hj => by simp at hj; omega)⟩
  have h3 := lk_flat_set xs k x ⟨x.tpl, tgt, 1⟩ hx rfl
  simp only at h3
  have h4 := h2.1
  rw [h3] at h4
  have hs : setLks xs k tgt = xs.set k ⟨x.tpl, tgt, 1⟩ := by unfold setLks; rw [hx]
  rw [hs]
  have hl : (xs.set k ⟨x.tpl, tgt, 1⟩).length = xs.length := by simp
  rw [← hl] at h4
  obtain ⟨a, c, he, hA⟩ := Lks.of_owns h4
  simp only [Value.slice.injEq] at he
  obtain ⟨rfl, _, _⟩ := he
  exact hA
theorem setLks_len (xs : List Lk) (k : Nat) (tgt : Int) : (setLks xs k tgt).length = xs.length := by
  unfold setLks
  split <;> simp


set_option maxRecDepth 100000 in
set_option maxHeartbeats 6400000 in
theorem set_calls (a : Option Addr) (cap : Nat) (xs : List Lk) (id tgt : Int) (w : World) (hx : LksAt w a xs) (hfx : ∀ x ∈ xs, x.fits) (hlx : xs.length ≤ 4000000) :
    Calls Tryz.prog 22 #[.slice a xs.length cap, .int .i64 id, .int .i64 tgt] w (SetPost (setErr xs id tgt) (setLks xs (posOf (hasTpl id) xs).toNat tgt) w) := by
  have hIF := fun (w1 : World) (h : Below w.heap.size w w1) => inForm_calls a cap xs w1 (hx.later h) hfx hlx
  have hFI := fun (w1 : World) (h : Below w.heap.size w w1) => linkFind_calls a cap xs id w1 (hx.later h) hlx
  have HT := Lib.hid (fun (w2 w3 : World) (h : Below w.heap.size w w2) (h3 : Below w2.heap.size w2 w3) => (h.trans (h3.mono h.size) : Below w.heap.size w w3))
  have hb0 : Below w.heap.size w w := Below.refl _ _
  cases h1 : formB xs
  · have hE : setErr xs id tgt = 4 := by unfold setErr; rw [if_pos h1]
    rw [hE]
    have HBD := Lib.hid (fun (w' : World) (hb : Below w.heap.size w w') => SetPost.bad (E := 4) (ys := setLks xs (posOf (hasTpl id) xs).toNat tgt) (by decide) hb)
    rw [h1] at hIF
    have HIF := Lib.hid hIF
    generalize SetPost 4 (setLks xs (posOf (hasTpl id) xs).toNat tgt) w = Q at *
    clear hIF hFI hx hfx h1 hE
    go_enter Tryz.func22, Tryz.ntmps22
    go_wp2_with fail
    refine (HIF.out _ hb0).mono ?_
    rintro e w1 ⟨rfl, hb1⟩
    go_wp2_with fail
    exact HBD.out _ hb1
  · by_cases h2 : posOf (hasTpl id) xs < 0
    · have hE : setErr xs id tgt = 6 := by unfold setErr; rw [if_neg (by rw [h1]; decide), if_pos h2]
      rw [hE]
      have HBD := Lib.hid (fun (w' : World) (hb : Below w.heap.size w w') => SetPost.bad (E := 6) (ys := setLks xs (posOf (hasTpl id) xs).toNat tgt) (by decide) hb)
      rw [h1] at hIF
      have HIF := Lib.hid hIF; have HFI := Lib.hid hFI
      generalize SetPost 6 (setLks xs (posOf (hasTpl id) xs).toNat tgt) w = Q at *
      generalize posOf (hasTpl id) xs = N at *
      clear hIF hFI hx hfx h1 hE
      go_enter Tryz.func22, Tryz.ntmps22
      go_wp2_with fail
      refine (HIF.out _ hb0).mono ?_
      rintro e w1 ⟨rfl, hb1⟩
      go_wp2_with fail
      refine (HFI.out _ hb1).mono ?_
      rintro e w2 ⟨rfl, hb2⟩
      have hc2 := HT.out _ _ hb1 hb2
      clear hb2
      go_wp2_with fail
      exact HBD.out _ hc2
    · obtain ⟨k, x, hk, hkl, hxk, _⟩ := posOf_get (hasTpl id) xs (by omega)
      have hE := setErr_at (tgt := tgt) h1 hk hxk
      rw [hk] at hFI ⊢
      rw [show ((k : Int)).toNat = k by omega]
      obtain ⟨b, off, x', rfl, hbl, hxk', hc, _⟩ := hx.at_ hkl
      obtain rfl : x = x' := by rw [hxk] at hxk'; simpa using hxk'
      rcases (show ((tgt < 1 ∨ (1 ≤ tgt ∧ 1099511627776 < tgt)) ∧ setErr xs id tgt = 2) ∨ (1 ≤ tgt ∧ tgt ≤ 1099511627776 ∧ x.st = 4 ∧ setErr xs id tgt = 17) ∨ (1 ≤ tgt ∧ tgt ≤ 1099511627776 ∧ (x.st == 4) = false ∧ setErr xs id tgt = if other k tgt xs 0 = true then 7 else 0) by
        rw [hE]
        by_cases a1 : tgt < 1
        · exact .inl ⟨.inl a1, if_pos a1⟩
        · by_cases a2 : 1099511627776 < tgt
          · exact .inl ⟨.inr ⟨by omega, a2⟩, by rw [if_neg a1, if_pos a2]⟩
          · by_cases a3 : x.st = 4
            · exact .inr (.inl ⟨by omega, by omega, a3, by rw [if_neg a1, if_neg a2, if_pos a3]⟩)
            · exact .inr (.inr ⟨by omega, by omega, by simpa using a3, by rw [if_neg a1, if_neg a2, if_neg a3]⟩)) with ⟨hr, hE⟩ | ⟨t1, t2, hs, hE⟩ | ⟨t1, t2, hs, hE⟩
      · rw [hE]
        have HBD := Lib.hid (fun (w' : World) (hb : Below w.heap.size w w') => SetPost.bad (E := 2) (ys := setLks xs k tgt) (by decide) hb)
        rw [h1] at hIF
        have HIF := Lib.hid hIF; have HFI := Lib.hid hFI
        generalize SetPost 2 (setLks xs k tgt) w = Q at *
        clear hIF hFI hx hfx h1 hE h2 hk hxk hxk' hc
        rcases hr with hr | ⟨hr, hr'⟩
        all_goals
          go_enter Tryz.func22, Tryz.ntmps22
          go_wp2_with fail
          refine (HIF.out _ hb0).mono ?_
          rintro e w1 ⟨rfl, hb1⟩
          go_wp2_with fail
          refine (HFI.out _ hb1).mono ?_
          rintro e w2 ⟨rfl, hb2⟩
          have hc2 := HT.out _ _ hb1 hb2
          clear hb2
          go_wp2_with fail
          exact HBD.out _ hc2
      · rw [hE]
        have HBD := Lib.hid (fun (w' : World) (hb : Below w.heap.size w w') => SetPost.bad (E := 17) (ys := setLks xs k tgt) (by decide) hb)
        rw [h1] at hIF
        have HIF := Lib.hid hIF; have HFI := Lib.hid hFI
        generalize SetPost 17 (setLks xs k tgt) w = Q at *
        have HC := Lib.hid (fun (w1 : World) (h : Below w.heap.size w w1) => (h.cell (p := ⟨b, off + k * 3 + 2, none⟩) hbl).trans (hc 2 _ rfl))
        obtain ⟨tpl, tg, st⟩ := x
        simp only at hs
        subst hs
        clear hIF hFI hx hfx h1 hE h2 hk hxk hxk' hc
        go_enter Tryz.func22, Tryz.ntmps22
        go_wp2_with fail
        refine (HIF.out _ hb0).mono ?_
        rintro e w1 ⟨rfl, hb1⟩
        go_wp2_with fail
        refine (HFI.out _ hb1).mono ?_
        rintro e w2 ⟨rfl, hb2⟩
        have hc2 := HT.out _ _ hb1 hb2
        have d2 := HC.out _ hc2
        clear hb2
        go_wp2_with fail
        exact HBD.out _ hc2
      · rw [hE]
        have HQB := Lib.hid (fun (w' : World) (h : other k tgt xs 0 = true) (hb : Below w.heap.size w w') => (show SetPost (if other k tgt xs 0 = true then 7 else 0) (setLks xs k tgt) w (.returned (.tuple #[.slice none 0 0, .int .i64 7])) w' by rw [if_pos h]; exact SetPost.bad (by decide) hb))
        have HQG := Lib.hid (fun (w' : World) (g c : Nat) (h : other k tgt xs 0 = false) (hy : LksAt w' (some ⟨g, 0, none⟩) (setLks xs k tgt)) (hb : Below w.heap.size w w') => (show SetPost (if other k tgt xs 0 = true then 7 else 0) (setLks xs k tgt) w (.returned (.tuple #[.slice (some ⟨g, 0, none⟩) xs.length c, .int .i64 0])) w' by
          rw [if_neg (by rw [h]; decide), ← setLks_len xs k tgt]
          exact SetPost.good hy hb))
        generalize SetPost (if other k tgt xs 0 = true then 7 else 0) (setLks xs k tgt) w = Q at *
        rw [h1] at hIF
        obtain ⟨j0, hj, hy0, hy1, hy2⟩ := info_parts Tryz.info49
        have HCL := Lib.hid (fun (w1 : World) (h : Below w.heap.size w w1) => Tryz.slices_Clone j0 _ 3 24 hj hy0 hy1 hy2 rfl (by decide) (fun w => by kernel_rfl) b off xs.length cap (xs.flatMap Lk.enc) w1 (flat_len Lk.enc 3 (fun _ => rfl) xs) (by unfold maxLen; omega) (by omega) (LksAt.cells (fun i x hxi j v hv => (h.cell (p := ⟨b, off + i * 3 + j, none⟩) hbl).trans (by
          rcases hx with h0 | ⟨b', off', he, _, hcc⟩
          · rw [h0] at hxi; simp at hxi
          · simp only [Option.some.injEq, Addr.mk.injEq, and_true] at he
            obtain ⟨rfl, rfl⟩ := he
            exact (hcc i x hxi).1 j v hv))) (lk_enc_one xs))
        have HST := Lib.hid (fun (base : Nat) (w1 : World) (g c : Nat) (h : w1.ownsRow base 49 3 (.slice (some ⟨g, 0, none⟩) xs.length c) xs.length (xs.flatMap Lk.enc)) (hb : base ≤ w1.heap.size) => set_stored h hxk tgt hb)
        have HLC := Lib.hid (fun (base : Nat) (w1 : World) (g c : Nat) (h : w1.ownsRow base 49 3 (.slice (some ⟨g, 0, none⟩) xs.length c) xs.length (xs.flatMap Lk.enc)) => lk_cell h hxk)
        have HX := Lib.hid hx
        have H0 := Lib.hid (show other k tgt (xs.drop 0) 0 = other k tgt xs 0 from rfl)
        have HIF := Lib.hid hIF; have HFI := Lib.hid hFI
        have HC := Lib.hid (fun (w1 : World) (h : Below w.heap.size w w1) => (h.cell (p := ⟨b, off + k * 3 + 2, none⟩) hbl).trans (hc 2 _ rfl))
        generalize other k tgt xs 0 = O at *
        obtain ⟨tpl, tg, st⟩ := x
        simp only at hs
        clear hIF hFI hx hfx h1 hE h2 hk hxk hxk' hc hj hy0 hy1 hy2
        go_enter Tryz.func22, Tryz.ntmps22
        go_wp2_with fail
        refine (HIF.out _ hb0).mono ?_
        rintro e w1 ⟨rfl, hb1⟩
        go_wp2_with fail
        refine (HFI.out _ hb1).mono ?_
        rintro e w2 ⟨rfl, hb2⟩
        have hc2 := HT.out _ _ hb1 hb2
        have d2 := HC.out _ hc2
        clear hb2
        go_wp2_with fail
        go_loopw [37] (fun i wr => ∃ j : Nat, j ≤ xs.length ∧ i = .int .i64 j ∧ other k tgt (xs.drop j) j = O ∧ Below w.heap.size w wr) (fun i _ => xs.length - (intOf i).toNat)
        case atStart => exact ⟨0, by omega, rfl, H0.out, hc2⟩
        case round =>
          obtain ⟨j, hj, rfl, hp, hb⟩ := hrel
          by_cases hlt : j < xs.length
          · obtain ⟨b', off', y, he, hbl', hyj, hcj, _⟩ := (HX.out.later hb).at_ hlt
            obtain ⟨rfl, rfl⟩ : b' = b ∧ off' = off := by simpa [eq_comm] using he
            rw [other_at k tgt xs j y hyj] at hp
            obtain ⟨ytpl, ytgt, yst⟩ := y
            have d0 := hcj 0 _ rfl; have d1 := hcj 1 _ rfl; have d3 := hcj 2 _ rfl
            simp only [Nat.add_zero] at d0 d1 d3
            have HB := Lib.hid (fun o => hb.alloc hb.size o)
            clear hcj hyj he d2
            simp only at hp
            rcases (show (j = k) ∨ (((j : Int) != (k : Int)) = true ∧ ¬ j = k ∧ ytgt = tgt) ∨ (((j : Int) != (k : Int)) = true ∧ ¬ j = k ∧ ¬ ytgt = tgt ∧ (ytgt == tgt) = false) by
              by_cases e1 : j = k
              · exact .inl e1
              · by_cases e2 : ytgt = tgt
                · exact .inr (.inl ⟨by simp; omega, e1, e2⟩)
                · exact .inr (.inr ⟨by simp; omega, e1, e2, by simpa using e2⟩)) with rfl | ⟨e1, e2, rfl⟩ | ⟨e1, e2, e3, e4⟩
            · rw [if_neg (by simp)] at hp
              have HP := Lib.hid hp
              clear hp
              have hne : ((j : Int) != (j : Int)) = false := by simp
              go_wp2_with fail
              go_roundw
              case rel => exact ⟨j + 1, by omega, by go_num, HP.out, HB.out _⟩
              case measure => simp [intOf]; omega
            · rw [if_pos ⟨by omega, rfl⟩] at hp
              subst hp
              go_wp2_with fail
              exact HQB.out _ (by first | rfl | trivial) (HB.out _)
            · rw [if_neg (by rintro ⟨_, h⟩; exact e3 h)] at hp
              have HP := Lib.hid hp
              clear hp e3
              go_wp2_with fail
              go_roundw
              case rel => exact ⟨j + 1, by omega, by go_num, HP.out, HB.out _⟩
              case measure => simp [intOf]; omega
          · obtain rfl : j = xs.length := by omega
            rw [List.drop_length, other] at hp
            subst hp
            clear hlt hj d2
            go_wp2_with fail
            refine (HCL.out _ hb).mono ?_
            rintro e w3 ⟨v, rfl, hown, _, hb3⟩
            obtain ⟨g, c, rfl⟩ := ownForm hown (by omega)
            have hsz : wr.heap.size ≤ w3.heap.size := hb3.size
            have hst := HST.out _ _ _ _ hown hsz
            have c1 := HLC.out _ _ _ _ hown 1 _ rfl
            have c2 := HLC.out _ _ _ _ hown 2 _ rfl
            have z1 := hown.frozenAt (k * 3 + 1)
            have z2 := hown.frozenAt (k * 3 + 2)
            have HST2 := Lib.hid hst
            have HB4 := Lib.hid (fun (w4 : World) (h : Below wr.heap.size w3 w4) => (HT.out _ _ hb (hb3.trans h)))
            clear hown hst hb3 HCL HLC
            go_wp2_with fail
            exact HQG.out _ _ _ (by first | rfl | trivial) HST2.out.1 (HB4.out _ HST2.out.2)


end Go.Proofs.YtdgakmpopgpijaaGreatDoor