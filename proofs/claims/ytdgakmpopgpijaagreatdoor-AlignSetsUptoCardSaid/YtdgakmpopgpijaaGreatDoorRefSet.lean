/- The contract of the reference's Set: the same error and links as align.Set. -/
import Derived.Test.YtdgakmpopgpijaaGreatDoorSet
import Derived.Test.YtdgakmpopgpijaaGreatDoorFormed
set_option linter.unusedVariables false
namespace Go.Proofs.YtdgakmpopgpijaaGreatDoor
open Go.RowKit

theorem LksAt.news {w : World} {b off : Nat} {xs : List Lk} (h : LksAt w (some ⟨b, off, none⟩) xs) : ∀ j u, (xs.flatMap Lk.enc)[j]? = some u → w.cell? ⟨b, off + j, none⟩ = some u := by
  rcases h with rfl | ⟨b', off', he, _, hcc⟩
  · intro j u hu; simp at hu
  · simp only [Option.some.injEq, Addr.mk.injEq, and_true] at he
    obtain ⟨rfl, rfl⟩ := he
    exact LksAt.cells fun i x hx => (hcc i x hx).1

set_option maxRecDepth 100000 in
set_option maxHeartbeats 6400000 in
theorem refSet_calls (a : Option Addr) (cap : Nat) (xs : List Lk) (id tgt : Int) (w : World) (hx : LksAt w a xs) (hfx : ∀ x ∈ xs, x.fits) (hlx : xs.length ≤ 4000000) (hcap : xs.length ≤ cap) :
    Calls Tryz.prog 23 #[.slice a xs.length cap, .int .i64 id, .int .i64 tgt] w (SetPost (setErr xs id tgt) (setLks xs (posOf (hasTpl id) xs).toNat tgt) w) := by
  have hIF := fun (w1 : World) (h : Below w.heap.size w w1) => formed_calls a cap xs w1 (hx.later h) hfx hlx hcap
  have hFI := fun (w1 : World) (h : Below w.heap.size w w1) => refFind_calls a cap xs id w1 (hx.later h) hlx
  have hAI := fun (w1 : World) (h : Below w.heap.size w w1) => aimed_calls a cap xs tgt w1 (hx.later h) hlx
  have HT := Lib.hid (fun (w2 w3 : World) (h : Below w.heap.size w w2) (h3 : Below w2.heap.size w2 w3) => (h.trans (h3.mono h.size) : Below w.heap.size w w3))
  have hb0 : Below w.heap.size w w := Below.refl _ _
  cases h1 : formB xs
  · have hE : setErr xs id tgt = 4 := by unfold setErr; rw [if_pos h1]
    rw [hE]
    have HBD := Lib.hid (fun (w' : World) (hb : Below w.heap.size w w') => SetPost.bad (E := 4) (ys := setLks xs (posOf (hasTpl id) xs).toNat tgt) (by decide) hb)
    rw [h1] at hIF
    have HIF := Lib.hid hIF
    generalize SetPost 4 (setLks xs (posOf (hasTpl id) xs).toNat tgt) w = Q at *
    clear hIF hFI hAI hx hfx h1 hE
    go_enter Tryz.func23, Tryz.ntmps23
    go_wp2_with fail
    refine (HIF.out _ hb0).mono ?_
    rintro e w1 ⟨rfl, hb1⟩
    go_wp2_with fail
    exact HBD.out _ hb1
  · by_cases h2 : posOf (hasTpl id) xs < 0
    · have hE : setErr xs id tgt = 6 := by unfold setErr; rw [if_neg (by rw [h1]; decide), if_pos h2]
      rw [hE]
      have HBD := Lib.hid (fun (w' : World) (hb : Below w.heap.size w w') => SetPost.bad (E := 6) (ys := setLks xs (posOf (hasTpl id) xs).toNat tgt) (by decide) hb)
      rw [h1] at hIF
      have HIF := Lib.hid hIF; have HFI := Lib.hid hFI
      generalize SetPost 6 (setLks xs (posOf (hasTpl id) xs).toNat tgt) w = Q at *
      generalize posOf (hasTpl id) xs = N at *
      clear hIF hFI hAI hx hfx h1 hE
      go_enter Tryz.func23, Tryz.ntmps23
      go_wp2_with fail
      refine (HIF.out _ hb0).mono ?_
      rintro e w1 ⟨rfl, hb1⟩
      go_wp2_with fail
      refine (HFI.out _ hb1).mono ?_
      rintro e w2 ⟨rfl, hb2⟩
      have hc2 := HT.out _ _ hb1 hb2
      clear hb2
      go_wp2_with fail
      exact HBD.out _ hc2
    · obtain ⟨k, x, hk, hkl, hxk, _⟩ := posOf_get (hasTpl id) xs (by omega)
      have hE := setErr_at (tgt := tgt) h1 hk hxk
      rw [hk] at hFI ⊢
      rw [show ((k : Int)).toNat = k by omega]
      obtain ⟨b, off, x', rfl, hbl, hxk', hc, _⟩ := hx.at_ hkl
      obtain rfl : x = x' := by rw [hxk] at hxk'; simpa using hxk'
      rcases (show ((tgt < 1 ∨ (1 ≤ tgt ∧ 1099511627776 < tgt)) ∧ setErr xs id tgt = 2) ∨ (1 ≤ tgt ∧ tgt ≤ 1099511627776 ∧ x.st = 4 ∧ setErr xs id tgt = 17) ∨ (1 ≤ tgt ∧ tgt ≤ 1099511627776 ∧ (x.st == 4) = false ∧ setErr xs id tgt = if other k tgt xs 0 = true then 7 else 0) by
        rw [hE]
        by_cases a1 : tgt < 1
        · exact .inl ⟨.inl a1, if_pos a1⟩
        · by_cases a2 : 1099511627776 < tgt
          · exact .inl ⟨.inr ⟨by omega, a2⟩, by rw [if_neg a1, if_pos a2]⟩
          · by_cases a3 : x.st = 4
            · exact .inr (.inl ⟨by omega, by omega, a3, by rw [if_neg a1, if_neg a2, if_pos a3]⟩)
            · exact .inr (.inr ⟨by omega, by omega, by simpa using a3, by rw [if_neg a1, if_neg a2, if_neg a3]⟩)) with ⟨hr, hE⟩ | ⟨t1, t2, hs, hE⟩ | ⟨t1, t2, hs, hE⟩
      · rw [hE]
        have HBD := Lib.hid (fun (w' : World) (hb : Below w.heap.size w w') => SetPost.bad (E := 2) (ys := setLks xs k tgt) (by decide) hb)
        rw [h1] at hIF
        have HIF := Lib.hid hIF; have HFI := Lib.hid hFI
        generalize SetPost 2 (setLks xs k tgt) w = Q at *
        clear hIF hFI hAI hx hfx h1 hE h2 hk hxk hxk' hc
        rcases hr with hr | ⟨hr, hr'⟩
        all_goals
          go_enter Tryz.func23, Tryz.ntmps23
          go_wp2_with fail
          refine (HIF.out _ hb0).mono ?_
          rintro e w1 ⟨rfl, hb1⟩
          go_wp2_with fail
          refine (HFI.out _ hb1).mono ?_
          rintro e w2 ⟨rfl, hb2⟩
          have hc2 := HT.out _ _ hb1 hb2
          clear hb2
          go_wp2_with fail
          exact HBD.out _ hc2
      · rw [hE]
        have HBD := Lib.hid (fun (w' : World) (hb : Below w.heap.size w w') => SetPost.bad (E := 17) (ys := setLks xs k tgt) (by decide) hb)
        rw [h1] at hIF
        have HIF := Lib.hid hIF; have HFI := Lib.hid hFI
        generalize SetPost 17 (setLks xs k tgt) w = Q at *
        have HC := Lib.hid (fun (w1 : World) (h : Below w.heap.size w w1) => (h.cell (p := ⟨b, off + k * 3 + 2, none⟩) hbl).trans (hc 2 _ rfl))
        obtain ⟨tpl, tg, st⟩ := x
        simp only at hs
        subst hs
        clear hIF hFI hAI hx hfx h1 hE h2 hk hxk hxk' hc
        go_enter Tryz.func23, Tryz.ntmps23
        go_wp2_with fail
        refine (HIF.out _ hb0).mono ?_
        rintro e w1 ⟨rfl, hb1⟩
        go_wp2_with fail
        refine (HFI.out _ hb1).mono ?_
        rintro e w2 ⟨rfl, hb2⟩
        have hc2 := HT.out _ _ hb1 hb2
        have d2 := HC.out _ hc2
        clear hb2
        go_wp2_with fail
        exact HBD.out _ hc2
      · rw [hE, other_aim h1 hxk t1]
        have HQB := Lib.hid (fun (w' : World) (h : ¬ x.tgt = tgt) (h' : aimB tgt xs = true) (hb : Below w.heap.size w w') => (show SetPost (if decide (¬ x.tgt = tgt ∧ aimB tgt xs = true) = true then 7 else 0) (setLks xs k tgt) w (.returned (.tuple #[.slice none 0 0, .int .i64 7])) w' by rw [if_pos (by simp [h, h'])]; exact SetPost.bad (by decide) hb))
        have HQG := Lib.hid (fun (w' : World) (g c : Nat) (h : x.tgt = tgt ∨ aimB tgt xs = false) (hy : LksAt w' (some ⟨g, 0, none⟩) (setLks xs k tgt)) (hb : Below w.heap.size w w') => (show SetPost (if decide (¬ x.tgt = tgt ∧ aimB tgt xs = true) = true then 7 else 0) (setLks xs k tgt) w (.returned (.tuple #[.slice (some ⟨g, 0, none⟩) xs.length c, .int .i64 0])) w' by
          rw [if_neg (by rcases h with h | h <;> simp [h]), ← setLks_len xs k tgt]
          exact SetPost.good hy hb))
        generalize SetPost (if decide (¬ x.tgt = tgt ∧ aimB tgt xs = true) = true then 7 else 0) (setLks xs k tgt) w = Q at *
        rw [h1] at hIF
        obtain ⟨j0, hj, hy0, hy1, hy2⟩ := info_parts Tryz.info49
        have JI := Lib.hid hj; have J0 := Lib.hid hy0; have J1 := Lib.hid hy1; have J2 := Lib.hid hy2
        have HST := Lib.hid (fun (base : Nat) (w1 : World) (g c : Nat) (h : w1.ownsRow base 49 3 (.slice (some ⟨g, 0, none⟩) xs.length c) xs.length (xs.flatMap Lk.enc)) (hb : base ≤ w1.heap.size) => set_stored h hxk tgt hb)
        have HLC := Lib.hid (fun (base : Nat) (w1 : World) (g c : Nat) (h : w1.ownsRow base 49 3 (.slice (some ⟨g, 0, none⟩) xs.length c) xs.length (xs.flatMap Lk.enc)) => lk_cell h hxk)
        have HNW := Lib.hid (fun (w1 : World) (h : Below w.heap.size w w1) => (hx.later h).news)
        have HFL := Lib.hid (flat_len Lk.enc 3 (fun _ => rfl) xs)
        have HEO := Lib.hid (lk_enc_one xs)
        have HIF := Lib.hid hIF; have HFI := Lib.hid hFI; have HAI := Lib.hid hAI
        have HC1 := Lib.hid (fun (w1 : World) (h : Below w.heap.size w w1) => (h.cell (p := ⟨b, off + k * 3 + 1, none⟩) hbl).trans (hc 1 _ rfl))
        have HC2 := Lib.hid (fun (w1 : World) (h : Below w.heap.size w w1) => (h.cell (p := ⟨b, off + k * 3 + 2, none⟩) hbl).trans (hc 2 _ rfl))
        generalize aimB tgt xs = A at *
        generalize hzs : xs.flatMap Lk.enc = zs at *
        obtain ⟨tpl, tg, st⟩ := x
        simp only at hs HQB HQG
        clear hIF hFI hAI hx hfx h1 hE h2 hk hxk hxk' hc hj hy0 hy1 hy2 hzs
        have hroad : tg = tgt ∨ ((tg != tgt) = true ∧ ¬ tg = tgt) := by
          by_cases e : tg = tgt
          · exact .inl e
          · exact .inr ⟨by simpa using e, e⟩
        rcases hroad with rfl | ⟨e1, e2⟩
        · have ene : (tg != tg) = false := by simp
          go_enter Tryz.func23, Tryz.ntmps23
          go_wp2_with fail
          refine (HIF.out _ hb0).mono ?_
          rintro e w1 ⟨rfl, hb1⟩
          go_wp2_with fail
          refine (HFI.out _ hb1).mono ?_
          rintro e w2 ⟨rfl, hb2⟩
          have hc2 := HT.out _ _ hb1 hb2
          have d1 := HC1.out _ hc2
          have d2 := HC2.out _ hc2
          have hsz := hc2.size
          clear hb2
          go_wp2_with (at_builtin; refine wpList_append_own _ rfl (.tmp 46) (.tmp 47) 22 rfl w.heap.size 49 j0 _ 3 24 Tryz.underlying22 JI.out J0.out J1.out J2.out rfl (by decide) _ 0 [] rfl (World.ownsRow_made w2 #[] 0 ?hbase (Nat.zero_le _) (by simp)) ⟨b, off, none⟩ xs.length cap zs rfl ?q1 ?q2 ?q3 ?q4 ?q5 ?q6 ?_)
          case hbase => exact hsz
          case q1 => exact HFL.out
          case q2 => intro j u hu; rw [Addr.add_lit]; exact Lib.cell?_alloc_some _ (HNW.out _ hc2 j u hu)
          case q3 => exact HEO.out
          case q4 => unfold maxLen; omega
          case q5 => omega
          case q6 => simp; omega
          intro v' w3 hown hgrow _
          obtain ⟨g, c, rfl⟩ := ownForm hown (by omega)
          have hb3 : Below w.heap.size w w3 := (hc2.alloc hsz _).grown hgrow (by simp; omega) (by intro k hk; simp [Value.ownBlock] at hk; omega)
          have c1 := HLC.out _ _ _ _ hown 1 _ rfl
          have c2 := HLC.out _ _ _ _ hown 2 _ rfl
          have z1 := hown.frozenAt (k * 3 + 1)
          have z2 := hown.frozenAt (k * 3 + 2)
          have HST2 := Lib.hid (HST.out _ _ _ _ hown hb3.size)
          clear hown hgrow HLC HST d1 d2
          go_wp2_with fail
          exact HQG.out _ _ _ (.inl (by first | rfl | trivial)) HST2.out.1 (hb3.trans HST2.out.2)
        · cases A
          · go_enter Tryz.func23, Tryz.ntmps23
            go_wp2_with fail
            refine (HIF.out _ hb0).mono ?_
            rintro e w1 ⟨rfl, hb1⟩
            go_wp2_with fail
            refine (HFI.out _ hb1).mono ?_
            rintro e w2 ⟨rfl, hb2⟩
            have hc2 := HT.out _ _ hb1 hb2
            have d1 := HC1.out _ hc2
            have d2 := HC2.out _ hc2
            clear hb2
            go_wp2_with fail
            refine (HAI.out _ hc2).mono ?_
            rintro e w4 ⟨rfl, hb4⟩
            have hc4 := HT.out _ _ hc2 hb4
            have hsz := hc4.size
            clear hb4 d1 d2
            go_wp2_with (at_builtin; refine wpList_append_own _ rfl (.tmp 46) (.tmp 47) 22 rfl w.heap.size 49 j0 _ 3 24 Tryz.underlying22 JI.out J0.out J1.out J2.out rfl (by decide) _ 0 [] rfl (World.ownsRow_made w4 #[] 0 ?hbase (Nat.zero_le _) (by simp)) ⟨b, off, none⟩ xs.length cap zs rfl ?q1 ?q2 ?q3 ?q4 ?q5 ?q6 ?_)
            case hbase => exact hsz
            case q1 => exact HFL.out
            case q2 => intro j u hu; rw [Addr.add_lit]; exact Lib.cell?_alloc_some _ (HNW.out _ hc4 j u hu)
            case q3 => exact HEO.out
            case q4 => unfold maxLen; omega
            case q5 => omega
            case q6 => simp; omega
            intro v' w3 hown hgrow _
            obtain ⟨g, c, rfl⟩ := ownForm hown (by omega)
            have hb3 : Below w.heap.size w w3 := (hc4.alloc hsz _).grown hgrow (by simp; omega) (by intro k hk; simp [Value.ownBlock] at hk; omega)
            have c1 := HLC.out _ _ _ _ hown 1 _ rfl
            have c2 := HLC.out _ _ _ _ hown 2 _ rfl
            have z1 := hown.frozenAt (k * 3 + 1)
            have z2 := hown.frozenAt (k * 3 + 2)
            have HST2 := Lib.hid (HST.out _ _ _ _ hown hb3.size)
            clear hown hgrow HLC HST
            go_wp2_with fail
            exact HQG.out _ _ _ (.inr (by first | rfl | trivial)) HST2.out.1 (hb3.trans HST2.out.2)
          · go_enter Tryz.func23, Tryz.ntmps23
            go_wp2_with fail
            refine (HIF.out _ hb0).mono ?_
            rintro e w1 ⟨rfl, hb1⟩
            go_wp2_with fail
            refine (HFI.out _ hb1).mono ?_
            rintro e w2 ⟨rfl, hb2⟩
            have hc2 := HT.out _ _ hb1 hb2
            have d1 := HC1.out _ hc2
            have d2 := HC2.out _ hc2
            clear hb2
            go_wp2_with fail
            refine (HAI.out _ hc2).mono ?_
            rintro e w4 ⟨rfl, hb4⟩
            have hc4 := HT.out _ _ hc2 hb4
            clear hb4 d1 d2
            go_wp2_with fail
            exact HQB.out _ e2 (by first | rfl | trivial) hc4

end Go.Proofs.YtdgakmpopgpijaaGreatDoor