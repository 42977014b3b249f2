/- The contracts of align.Drop and of the reference's Drop: the links without an orphan, or the error. -/
import Derived.Test.YtdgakmpopgpijaaGreatDoorRefSet
import Derived.Test.YtdgakmpopgpijaaGreatDoorDelete
set_option linter.unusedVariables false
namespace Go.Proofs.YtdgakmpopgpijaaGreatDoor
open Go.RowKit

theorem dropErr_at {xs : List Lk} {id : Int} {k : Nat} {x : Lk} (h1 : formB xs = true) (h2 : posOf (hasTpl id) xs = k) (h3 : xs[k]? = some x) : dropErr xs id = if x.st = 4 then 0 else 17 := by
  unfold dropErr
  rw [if_neg (by rw [h1]; decide), h2, if_neg (by omega), show ((k : Int)).toNat = k by omega, h3]
theorem LksAt.news_take {w : World} {b off : Nat} {xs : List Lk} (h : LksAt w (some ⟨b, off, none⟩) xs) (k : Nat) : ∀ j u, ((xs.take k).flatMap Lk.enc)[j]? = some u → w.cell? ⟨b, off + j, none⟩ = some u := by
  intro j u hu
  refine h.news j u ?_
  have e : xs.flatMap Lk.enc = (xs.take k).flatMap Lk.enc ++ (xs.drop k).flatMap Lk.enc := by rw [← List.flatMap_append, List.take_append_drop]
  rw [e, List.getElem?_append_left (List.getElem?_eq_some_iff.1 hu).1]
  exact hu
theorem LksAt.news_drop {w : World} {b off : Nat} {xs : List Lk} (h : LksAt w (some ⟨b, off, none⟩) xs) (k : Nat) (hk : k ≤ xs.length) : ∀ j u, ((xs.drop k).flatMap Lk.enc)[j]? = some u → w.cell? ⟨b, off + k * 3 + j, none⟩ = some u := by
  intro j u hu
  rw [show off + k * 3 + j = off + (k * 3 + j) by omega]
  refine h.news (k * 3 + j) u ?_
  have e : xs.flatMap Lk.enc = (xs.take k).flatMap Lk.enc ++ (xs.drop k).flatMap Lk.enc := by rw [← List.flatMap_append, List.take_append_drop]
  have l1 := flat_len Lk.enc 3 (fun _ => rfl) (xs.take k)
  rw [List.length_take, Nat.min_eq_left hk] at l1
  rw [e, List.getElem?_append_right (by omega), ← hu]
  congr 1
  omega
/-- append to an own row, at a step of a region that draws its order. -/
theorem step_own {P : Program} {ops : Array Oper} {o : Oper} {a : Act} {w : World} {K : Act → World → Prop} {Q : Exit → Act → World → Prop} {E : Prop} (hgd : o.guard = none) (s x : Operand) (t : TypeId)
    (ho : o.op = .call { callee := .builtin .append, args := #[s, x], argTypes := #[t, t] })
    (base : Nat) (e : TypeId) (i : TypeInfo) (z : Value) (size bytes : Nat) (ht : P.underlying t = some (.slice e)) (hi : P.info? e = some i) (hz : i.zero = some z)
    (hsize : i.size = size) (hby : i.bytes = bytes) (hzs : z.cells.size = size) (hsz : 0 < size)
    (v : Value) (n : Nat) (xs : List Value) (hs : a.eval s = v) (hown : w.ownsRow base e size v n xs)
    (ad : Addr) (m c : Nat) (news : List Value) (hx : a.eval x = .slice (some ad) m c) (hl : news.length = m * size) (hnews : ∀ j u, news[j]? = some u → w.cell? (ad.add j) = some u) (h1 : ∀ u ∈ news, u.oneCell' = true)
    (h63 : n + m ≤ maxLen) (hbytes : (n + m) * bytes ≤ 140737488355328) (hbase : base ≤ w.heap.size)
    (h : ∀ v' w', w'.ownsRow base e size v' (n + m) (xs ++ news) → w.grownBy w' v.ownBlock → K (a.put o.dst v') w') :
    if Region.wanted o (yielded ops a.tmps) = true then Oper.wp P o a w K Q else E := by
  have hw : Region.wanted o (yielded ops a.tmps) = true := by simp [Region.wanted, hgd]
  rw [if_pos hw]
  exact wp_append_own w s x t ho base e i z size bytes ht hi hz hsize hby hzs hsz v n xs hs hown ad m c news hx hl hnews h1 h63 hbytes hbase fun v' w' h2 h3 _ => h v' w' h2 h3

set_option maxRecDepth 100000 in
set_option maxHeartbeats 6400000 in
theorem drop_calls (a : Option Addr) (cap : Nat) (xs : List Lk) (id : Int) (w : World) (hx : LksAt w a xs) (hfx : ∀ x ∈ xs, x.fits) (hlx : xs.length ≤ 4000000) :
    Calls Tryz.prog 24 #[.slice a xs.length cap, .int .i64 id] w (SetPost (dropErr xs id) (dropLks xs (posOf (hasTpl id) xs).toNat) w) := by
  have hIF := fun (w1 : World) (h : Below w.heap.size w w1) => inForm_calls a cap xs w1 (hx.later h) hfx hlx
  have hFI := fun (w1 : World) (h : Below w.heap.size w w1) => linkFind_calls a cap xs id w1 (hx.later h) hlx
  have HT := Lib.hid (fun (w2 w3 : World) (h : Below w.heap.size w w2) (h3 : Below w2.heap.size w2 w3) => (h.trans (h3.mono h.size) : Below w.heap.size w w3))
  have hb0 : Below w.heap.size w w := Below.refl _ _
  cases h1 : formB xs
  · have hE : dropErr xs id = 4 := by unfold dropErr; rw [if_pos h1]
    rw [hE]
    have HBD := Lib.hid (fun (w' : World) (hb : Below w.heap.size w w') => SetPost.bad (E := 4) (ys := dropLks xs (posOf (hasTpl id) xs).toNat) (by decide) hb)
    rw [h1] at hIF
    have HIF := Lib.hid hIF
    generalize SetPost 4 (dropLks xs (posOf (hasTpl id) xs).toNat) w = Q at *
    clear hIF hFI hx hfx h1 hE
    go_enter Tryz.func24, Tryz.ntmps24
    go_wp2_with fail
    refine (HIF.out _ hb0).mono ?_
    rintro e w1 ⟨rfl, hb1⟩
    go_wp2_with fail
    exact HBD.out _ hb1
  · by_cases h2 : posOf (hasTpl id) xs < 0
    · have hE : dropErr xs id = 6 := by unfold dropErr; rw [if_neg (by rw [h1]; decide), if_pos h2]
      rw [hE]
      have HBD := Lib.hid (fun (w' : World) (hb : Below w.heap.size w w') => SetPost.bad (E := 6) (ys := dropLks xs (posOf (hasTpl id) xs).toNat) (by decide) hb)
      rw [h1] at hIF
      have HIF := Lib.hid hIF; have HFI := Lib.hid hFI
      generalize SetPost 6 (dropLks xs (posOf (hasTpl id) xs).toNat) w = Q at *
      generalize posOf (hasTpl id) xs = N at *
      clear hIF hFI hx hfx h1 hE
      go_enter Tryz.func24, Tryz.ntmps24
      go_wp2_with fail
      refine (HIF.out _ hb0).mono ?_
      rintro e w1 ⟨rfl, hb1⟩
      go_wp2_with fail
      refine (HFI.out _ hb1).mono ?_
      rintro e w2 ⟨rfl, hb2⟩
      have hc2 := HT.out _ _ hb1 hb2
      clear hb2
      go_wp2_with fail
      exact HBD.out _ hc2
    · obtain ⟨k, x, hk, hkl, hxk, _⟩ := posOf_get (hasTpl id) xs (by omega)
      have hE := dropErr_at h1 hk hxk
      rw [hk] at hFI ⊢
      rw [show ((k : Int)).toNat = k by omega]
      obtain ⟨b, off, x', rfl, hbl, hxk', hc, _⟩ := hx.at_ hkl
      obtain rfl : x = x' := by rw [hxk] at hxk'; simpa using hxk'
      have HC := Lib.hid (fun (w1 : World) (h : Below w.heap.size w w1) => (h.cell (p := ⟨b, off + k * 3 + 2, none⟩) hbl).trans (hc 2 _ rfl))
      by_cases hs : x.st = 4
      · rw [hE, if_pos hs]
        have hlen := dropLks_len xs k hkl
        have HQG := Lib.hid (fun (w' : World) (a : Option Addr) (c n : Nat) (hn : n = xs.length - 1) (hy : LksAt w' a (dropLks xs k)) (hb : Below w.heap.size w w') => (show SetPost 0 (dropLks xs k) w (.returned (.tuple #[.slice a n c, .int .i64 0])) w' by
          rw [hn, ← hlen]
          exact SetPost.good hy hb))
        generalize SetPost 0 (dropLks xs k) w = Q at *
        rw [h1] at hIF
        have HIF := Lib.hid hIF; have HFI := Lib.hid hFI
        obtain ⟨j0, hj, hy0, hy1, hy2⟩ := info_parts Tryz.info49
        have HCL := Lib.hid (fun (w1 : World) (h : Below w.heap.size w w1) => Tryz.slices_Clone j0 _ 3 24 hj hy0 hy1 hy2 rfl (by decide) (fun w => by kernel_rfl) b off xs.length cap (xs.flatMap Lk.enc) w1 (flat_len Lk.enc 3 (fun _ => rfl) xs) (by unfold maxLen; omega) (by omega) ((hx.later h).news) (lk_enc_one xs))
        have HDL := Lib.hid (fun (base g c : Nat) (w1 : World) (h : w1.ownsRow base 49 3 (.slice (some ⟨g, 0, none⟩) xs.length c) xs.length (xs.flatMap Lk.enc)) => delete_calls base g c k xs w1 h hkl hlx)
        obtain ⟨tpl, tg, st⟩ := x
        simp only at hs
        subst hs
        clear hj hy0 hy1 hy2
        clear hIF hFI hx hfx h1 hE h2 hk hxk hxk' hc
        go_enter Tryz.func24, Tryz.ntmps24
        go_wp2_with fail
        refine (HIF.out _ hb0).mono ?_
        rintro e w1 ⟨rfl, hb1⟩
        go_wp2_with fail
        refine (HFI.out _ hb1).mono ?_
        rintro e w2 ⟨rfl, hb2⟩
        have hc2 := HT.out _ _ hb1 hb2
        have d2 := HC.out _ hc2
        clear hb2
        go_wp2_with fail
        refine (HCL.out _ hc2).mono ?_
        rintro e w3 ⟨v, rfl, hown, _, hb3⟩
        obtain ⟨g, c, rfl⟩ := ownForm hown (by omega)
        have HDL2 := Lib.hid (HDL.out _ _ _ _ hown)
        have HB3 := Lib.hid hb3
        clear hown HDL HCL hb3 d2
        go_wp2_with fail
        refine HDL2.out.mono ?_
        rintro e w4 ⟨rfl, hy, hb4⟩
        have HFIN := Lib.hid (HQG.out w4 _ c _ rfl hy (HT.out _ _ hc2 (HB3.out.trans hb4)))
        clear hy hb4
        go_wp2_with fail
        exact HFIN.out
      · rw [hE, if_neg hs]
        have HBD := Lib.hid (fun (w' : World) (hb : Below w.heap.size w w') => SetPost.bad (E := 17) (ys := dropLks xs k) (by decide) hb)
        rw [h1] at hIF
        have HIF := Lib.hid hIF; have HFI := Lib.hid hFI
        generalize SetPost 17 (dropLks xs k) w = Q at *
        obtain ⟨tpl, tg, st⟩ := x
        simp only at hs
        have hs' : (st != 4) = true := by simpa using hs
        clear hIF hFI hx hfx h1 hE h2 hk hxk hxk' hc hs
        go_enter Tryz.func24, Tryz.ntmps24
        go_wp2_with fail
        refine (HIF.out _ hb0).mono ?_
        rintro e w1 ⟨rfl, hb1⟩
        go_wp2_with fail
        refine (HFI.out _ hb1).mono ?_
        rintro e w2 ⟨rfl, hb2⟩
        have hc2 := HT.out _ _ hb1 hb2
        have d2 := HC.out _ hc2
        clear hb2
        go_wp2_with fail
        exact HBD.out _ hc2

set_option maxRecDepth 100000 in
set_option maxHeartbeats 6400000 in
theorem refDrop_calls (a : Option Addr) (cap : Nat) (xs : List Lk) (id : Int) (w : World) (hx : LksAt w a xs) (hfx : ∀ x ∈ xs, x.fits) (hlx : xs.length ≤ 4000000) (hcap : xs.length ≤ cap) :
    Calls Tryz.prog 25 #[.slice a xs.length cap, .int .i64 id] w (SetPost (dropErr xs id) (dropLks xs (posOf (hasTpl id) xs).toNat) w) := by
  have hIF := fun (w1 : World) (h : Below w.heap.size w w1) => formed_calls a cap xs w1 (hx.later h) hfx hlx hcap
  have hFI := fun (w1 : World) (h : Below w.heap.size w w1) => refFind_calls a cap xs id w1 (hx.later h) hlx
  have HT := Lib.hid (fun (w2 w3 : World) (h : Below w.heap.size w w2) (h3 : Below w2.heap.size w2 w3) => (h.trans (h3.mono h.size) : Below w.heap.size w w3))
  have hb0 : Below w.heap.size w w := Below.refl _ _
  cases h1 : formB xs
  · have hE : dropErr xs id = 4 := by unfold dropErr; rw [if_pos h1]
    rw [hE]
    have HBD := Lib.hid (fun (w' : World) (hb : Below w.heap.size w w') => SetPost.bad (E := 4) (ys := dropLks xs (posOf (hasTpl id) xs).toNat) (by decide) hb)
    rw [h1] at hIF
    have HIF := Lib.hid hIF
    generalize SetPost 4 (dropLks xs (posOf (hasTpl id) xs).toNat) w = Q at *
    clear hIF hFI hx hfx h1 hE
    go_enter Tryz.func25, Tryz.ntmps25
    go_wp2_with fail
    refine (HIF.out _ hb0).mono ?_
    rintro e w1 ⟨rfl, hb1⟩
    go_wp2_with fail
    exact HBD.out _ hb1
  · by_cases h2 : posOf (hasTpl id) xs < 0
    · have hE : dropErr xs id = 6 := by unfold dropErr; rw [if_neg (by rw [h1]; decide), if_pos h2]
      rw [hE]
      have HBD := Lib.hid (fun (w' : World) (hb : Below w.heap.size w w') => SetPost.bad (E := 6) (ys := dropLks xs (posOf (hasTpl id) xs).toNat) (by decide) hb)
      rw [h1] at hIF
      have HIF := Lib.hid hIF; have HFI := Lib.hid hFI
      generalize SetPost 6 (dropLks xs (posOf (hasTpl id) xs).toNat) w = Q at *
      generalize posOf (hasTpl id) xs = N at *
      clear hIF hFI hx hfx h1 hE
      go_enter Tryz.func25, Tryz.ntmps25
      go_wp2_with fail
      refine (HIF.out _ hb0).mono ?_
      rintro e w1 ⟨rfl, hb1⟩
      go_wp2_with fail
      refine (HFI.out _ hb1).mono ?_
      rintro e w2 ⟨rfl, hb2⟩
      have hc2 := HT.out _ _ hb1 hb2
      clear hb2
      go_wp2_with fail
      exact HBD.out _ hc2
    · obtain ⟨k, x, hk, hkl, hxk, _⟩ := posOf_get (hasTpl id) xs (by omega)
      have hE := dropErr_at h1 hk hxk
      rw [hk] at hFI ⊢
      rw [show ((k : Int)).toNat = k by omega]
      obtain ⟨b, off, x', rfl, hbl, hxk', hc, _⟩ := hx.at_ hkl
      obtain rfl : x = x' := by rw [hxk] at hxk'; simpa using hxk'
      have HC := Lib.hid (fun (w1 : World) (h : Below w.heap.size w w1) => (h.cell (p := ⟨b, off + k * 3 + 2, none⟩) hbl).trans (hc 2 _ rfl))
      by_cases hs : x.st = 4
      · rw [hE, if_pos hs]
        have hlen := dropLks_len xs k hkl
        have HQG := Lib.hid (fun (w' : World) (a : Option Addr) (c n : Nat) (hn : n = xs.length - 1) (hy : LksAt w' a (dropLks xs k)) (hb : Below w.heap.size w w') => (show SetPost 0 (dropLks xs k) w (.returned (.tuple #[.slice a n c, .int .i64 0])) w' by
          rw [hn, ← hlen]
          exact SetPost.good hy hb))
        generalize SetPost 0 (dropLks xs k) w = Q at *
        rw [h1] at hIF
        have HIF := Lib.hid hIF; have HFI := Lib.hid hFI
        obtain ⟨j0, hj, hy0, hy1, hy2⟩ := info_parts Tryz.info49
        have JI := Lib.hid hj; have J0 := Lib.hid hy0; have J1 := Lib.hid hy1; have J2 := Lib.hid hy2
        have HN1 := Lib.hid (fun (w1 : World) (h : Below w.heap.size w w1) => (hx.later h).news_take k)
        obtain ⟨A, hA, hsA⟩ : ∃ A : Addr, (if cap = k + 1 then some (⟨b, off, none⟩ : Addr) else some ⟨b, off + (k + 1) * 3, none⟩) = some A ∧ Hid (∀ w1, Below w.heap.size w w1 → ∀ t u, ((xs.drop (k + 1)).flatMap Lk.enc)[t]? = some u → w1.cell? (A.add t) = some u) := by
          have hl2 := flat_len Lk.enc 3 (fun _ => rfl) (xs.drop (k + 1))
          rw [List.length_drop] at hl2
          by_cases hq : cap = k + 1
          · refine ⟨⟨b, off, none⟩, by simp [hq], fun w1 h t u hu => ?_⟩
            have := (List.getElem?_eq_some_iff.1 hu).1
            omega
          · refine ⟨⟨b, off + (k + 1) * 3, none⟩, by simp [hq], fun w1 h t u hu => ?_⟩
            rw [Addr.add_lit]
            exact (hx.later h).news_drop (k + 1) (by omega) t u hu
        have s1 := Lib.hid (show ((xs.take k).flatMap Lk.enc).length = k * 3 by rw [flat_len Lk.enc 3 (fun _ => rfl), List.length_take, Nat.min_eq_left (by omega)])
        have s2 := Lib.hid (show ((xs.drop (k + 1)).flatMap Lk.enc).length = (xs.length - (k + 1)) * 3 by rw [flat_len Lk.enc 3 (fun _ => rfl), List.length_drop])
        have o1 := Lib.hid (lk_enc_one (xs.take k))
        have o2 := Lib.hid (lk_enc_one (xs.drop (k + 1)))
        have HJ := Lib.hid (show (xs.take k).flatMap Lk.enc ++ (xs.drop (k + 1)).flatMap Lk.enc = (dropLks xs k).flatMap Lk.enc by unfold dropLks; rw [List.flatMap_append])
        have HLEN := Lib.hid hlen
        have hk0 : (0 : Int) ≤ (k : Int) + 1 := by omega
        have hk1 : (k : Int) + 1 ≤ (xs.length : Int) := by omega
        have hwr : IntKind.i64.wrap ((k : Int) + 1) = (k : Int) + 1 := IntWalk.i64_in _ (by omega)
        have hkn : ((k : Int) + 1).toNat = k + 1 := by omega
        have hic : k ≤ cap := by omega
        have hjc : k + 1 ≤ cap := by omega
        have hm63 : k ≤ maxLen := by unfold maxLen; omega
        have hm64 : 0 + k + (xs.length - (k + 1)) ≤ maxLen := by unfold maxLen; omega
        have mixed : Tryz.prog.follows Departure.mixedOrders = true := by kernel_rfl
        obtain ⟨tpl, tg, st⟩ := x
        simp only at hs
        subst hs
        clear hj hy0 hy1 hy2 hlen
        clear hIF hFI hx hfx h1 hE h2 hk hxk hxk' hc
        go_enter Tryz.func25, Tryz.ntmps25
        go_wp2_with fail
        refine (HIF.out _ hb0).mono ?_
        rintro e w1 ⟨rfl, hb1⟩
        go_wp2_with fail
        refine (HFI.out _ hb1).mono ?_
        rintro e w2 ⟨rfl, hb2⟩
        have hc2 := HT.out _ _ hb1 hb2
        have d2 := HC.out _ hc2
        clear hb2
        go_wp2_with fail
        have hsz := hc2.size
        have HB2 := Lib.hid ((hc2.drew).alloc (show w.heap.size ≤ w2.drew.heap.size from hsz) (.cells #[] 49))
        clear d2
        go_region_law_o (first
          | (refine step_own rfl (.tmp 21) (.tmp 24) 22 rfl w.heap.size 49 j0 _ 3 24 Tryz.underlying22 JI.out J0.out J1.out J2.out rfl (by decide) _ 0 [] (by first | rfl | simp [Act.eval]) (World.ownsRow_made w2.drew #[] 0 hsz (Nat.zero_le _) (by simp)) ⟨b, off, none⟩ k cap ((xs.take k).flatMap Lk.enc) (by first | rfl | simp [Act.eval]) s1.out (fun j u hu => by rw [Addr.add_lit]; exact HN1.out _ HB2.out j u hu) o1.out (by rw [Nat.zero_add]; exact hm63) (by omega) HB2.out.size ?_; intro v1 w3 hown1 hgrow1; have hb3 : Below w.heap.size w w3 := HB2.out.grown hgrow1 (by simp; omega) (by intro j hj; simp [Value.ownBlock] at hj; omega); have HO1 := Lib.hid hown1; have HLT := Lib.hid (fun j hj => (hown1.lt j hj).1); have HS3 := Lib.hid hb3.size; clear hown1 hgrow1)
          | (refine step_own rfl (.tmp 25) (.tmp 29) 22 rfl w.heap.size 49 j0 _ 3 24 Tryz.underlying22 JI.out J0.out J1.out J2.out rfl (by decide) _ _ _ (by first | rfl | simp [Act.eval]) HO1.out A (xs.length - (k + 1)) (cap - (k + 1)) ((xs.drop (k + 1)).flatMap Lk.enc) (by first | rfl | simp [Act.eval]) s2.out (hsA.out _ hb3) o2.out hm64 (by omega) HS3.out ?_; intro v2 w4 hown2 hgrow2; have hb4 : Below w.heap.size w w4 := hb3.grown hgrow2 HS3.out HLT.out; have HO2 := Lib.hid hown2; clear hown2 hgrow2))
        have hown := HO2.out
        rw [List.nil_append, HJ.out, show 0 + k + (xs.length - (k + 1)) = (dropLks xs k).length by rw [HLEN.out]; omega] at hown
        obtain ⟨a4, c4, hv, hy⟩ := Lks.of_owns hown
        subst hv
        have HFIN := Lib.hid (HQG.out w4 a4 c4 _ HLEN.out hy hb4)
        clear hown hy HO2
        go_wp2_with fail
        go_ret2
        exact HFIN.out
      · rw [hE, if_neg hs]
        have HBD := Lib.hid (fun (w' : World) (hb : Below w.heap.size w w') => SetPost.bad (E := 17) (ys := dropLks xs k) (by decide) hb)
        rw [h1] at hIF
        have HIF := Lib.hid hIF; have HFI := Lib.hid hFI
        generalize SetPost 17 (dropLks xs k) w = Q at *
        obtain ⟨tpl, tg, st⟩ := x
        simp only at hs
        have hs' : (st != 4) = true := by simpa using hs
        clear hIF hFI hx hfx h1 hE h2 hk hxk hxk' hc hs
        go_enter Tryz.func25, Tryz.ntmps25
        go_wp2_with fail
        refine (HIF.out _ hb0).mono ?_
        rintro e w1 ⟨rfl, hb1⟩
        go_wp2_with fail
        refine (HFI.out _ hb1).mono ?_
        rintro e w2 ⟨rfl, hb2⟩
        have hc2 := HT.out _ _ hb1 hb2
        have d2 := HC.out _ hc2
        clear hb2
        go_wp2_with fail
        exact HBD.out _ hc2

end Go.Proofs.YtdgakmpopgpijaaGreatDoor
