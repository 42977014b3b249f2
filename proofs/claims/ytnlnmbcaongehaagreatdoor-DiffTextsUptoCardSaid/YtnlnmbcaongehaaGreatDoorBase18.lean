/- The contract of document.Clone. (printed by gen_docclone.py) The contract of diff.Patch, over what one change does to a document. The example's two changes: what each does to the document. -/
import Derived.Deep.RegionHeld3
import Derived.Deep.DeepCutAuto
import Derived.Deep.CutBlock
import Derived.Deep.DrawnRows
import Derived.Deep.WholeRow
import Derived.Deep.MidRow
import Derived.Laws.CopyOwn
import Derived.Test.YtnlnmbcaongehaaGreatDoorBase12
import Derived.Test.YtnlnmbcaongehaaGreatDoorBase17
set_option linter.unusedVariables false
set_option linter.unusedSimpArgs false
namespace Go.Proofs.YtnlnmbcaongehaaGreatDoor
open Go.RowKit
attribute [local go_sem ↓] Go.wp_at_zero Go.wp_at_succ
/-- Events in memory of the call's own, while they are being copied: k of them are done. -/
def EvsRel (B : Nat) (xs : List Ev) (g cap k : Nat) (w4 wr : World) : Prop :=
  ∃ zs : List Ev, zs.length = xs.length ∧ zs.map Ev.c = xs.map Ev.c ∧ wr.ownsRow B 50 7 (.slice (some ⟨g, 0, none⟩) xs.length cap) xs.length (zs.flatMap Ev.enc) ∧ (∀ j z, zs[j]? = some z → z.lies wr ∧ (∀ b, z.uses b → b ≠ g ∧ (j < k → B ≤ b))) ∧ w4.heap.size ≤ wr.heap.size ∧ (∀ b, b < w4.heap.size → b ≠ g → wr.heap[b]? = w4.heap[b]?)
theorem evs_map_set : ∀ (zs : List Ev) (k : Nat) (z y : Ev), zs[k]? = some z → y.c = z.c → (zs.set k y).map Ev.c = zs.map Ev.c
  | [], k, z, y, h, _ => by simp at h
  | x :: l, 0, z, y, h, hy => by
    obtain rfl : x = z := by simpa using h
    simp [hy]
  | x :: l, k + 1, z, y, h, hy => by
    have := evs_map_set l k z y (by simpa using h) hy
    simp [this]
theorem EvsRel.step {B : Nat} {xs zs : List Ev} {g cap k : Nat} {w4 wr w1 w2 : World} {z y : Ev} (hk : zs[k]? = some z) (h1 : zs.length = xs.length) (h2 : zs.map Ev.c = xs.map Ev.c) (h3 : wr.ownsRow B 50 7 (.slice (some ⟨g, 0, none⟩) xs.length cap) xs.length (zs.flatMap Ev.enc))
    (h4 : ∀ j z, zs[j]? = some z → z.lies wr ∧ (∀ b, z.uses b → b ≠ g ∧ (j < k → B ≤ b))) (h5 : w4.heap.size ≤ wr.heap.size) (h6 : ∀ b, b < w4.heap.size → b ≠ g → wr.heap[b]? = w4.heap[b]?) (hB : B ≤ w4.heap.size)
    (hb : Below wr.heap.size wr w1) (hyc : y.c = z.c) (hyl : y.lies w1) (hyu : ∀ b, y.uses b → wr.heap.size ≤ b)
    (hw : w2 = ((((((w1.setCell ⟨g, k * 7, none⟩ (.int .i64 y.id)).setCell ⟨g, k * 7 + 1, none⟩ (.int .i64 y.inn)).setCell ⟨g, k * 7 + 2, none⟩ (.int .i64 y.out)).setCell ⟨g, k * 7 + 3, none⟩ (.string y.region)).setCell ⟨g, k * 7 + 4, none⟩ (.int .u8 y.kind)).setCell ⟨g, k * 7 + 5, none⟩ (.string y.speaker)).setCell ⟨g, k * 7 + 6, none⟩ (.slice y.at_ y.rows.length y.cap)) :
    EvsRel B xs g cap (k + 1) w4 w2 := by
  have hkl : k < zs.length := (List.getElem?_eq_some_iff.1 hk).1
  have hg := h3.lt g rfl
  obtain ⟨s1, s2, s3⟩ := ev_stored (owns_below h3 hb) h1 (by omega) y w2 hw
  have hs := hb.size
  refine ⟨zs.set k y, by simpa using h1, (evs_map_set zs k z y hk hyc).trans h2, s1, fun j x hx => ?_, by omega, fun b hb1 hb2 => ?_⟩
  · rw [List.getElem?_set] at hx
    by_cases hjk : k = j
    · rw [if_pos hjk, if_pos hkl] at hx
      obtain rfl := Option.some.inj hx
      refine ⟨Ev.frame hyl (by omega) fun b hu => s3 b ?_, fun b hu => ⟨?_, fun _ => ?_⟩⟩
      · have := hyu b hu
        omega
      · have := hyu b hu
        omega
      · have := hyu b hu
        omega
    · rw [if_neg hjk] at hx
      obtain ⟨q1, q2⟩ := h4 j x hx
      exact ⟨Ev.frame (Ev.keeps _ _ _ hb q1) (by omega) fun b hu => s3 b (q2 b hu).1, fun b hu => ⟨(q2 b hu).1, fun hj => (q2 b hu).2 (by omega)⟩⟩
  · rw [s3 b hb2, hb.block b (by omega), h6 b hb1 hb2]
theorem slice_set2 {α : Type} {K : Nat} {enc : α → List Value} {w3 : World} {g i5 i7 : Nat} {v5 v7 : Value} {a : Option Addr} {xs : List α} (h : SliceOf K enc Flat w3 a xs) (hf : ∀ ad, a = some ad → g < ad.block) : SliceOf K enc Flat ((w3.setCell ⟨g, i5, none⟩ v5).setCell ⟨g, i7, none⟩ v7) a xs :=
  SliceOf.frame h (by simp) (fun b hu => by
    obtain ⟨_, ad, e, rfl⟩ := hu
    have := hf ad e
    rw [Below.heap_setCell _ _ _ _ (by simp only; omega), Below.heap_setCell _ _ _ _ (by simp only; omega)]) (fun _ _ _ => trivial)
/-- What document.Clone has made, read as a document. -/
theorem clone_fin {d : Doc} {w wc w5 wr w' : World} {a1 a3 : Option Addr} {c1 c3 g cap : Nat} (hS1 : SliceOf 7 Reg.enc Flat wc a1 d.regs) (hS3 : SliceOf 8 Cm.enc Flat wc a3 d.cms) (hf1 : ∀ ad, a1 = some ad → w.heap.size + 2 ≤ ad.block) (hf3 : ∀ ad, a3 = some ad → w.heap.size + 2 ≤ ad.block)
    (h45 : wc.heap.size ≤ w5.heap.size ∧ ∀ b, b < wc.heap.size → b ≠ w.heap.size → w5.heap[b]? = wc.heap[b]?) (hg : wc.heap.size ≤ g) (hR : EvsRel (w.heap.size + 2) d.evs g cap d.evs.length w5 wr) (hw' : wr.heap.size ≤ w'.heap.size ∧ ∀ b, b ≠ w.heap.size + 1 → w'.heap[b]? = wr.heap[b]?) (hb : Below w.heap.size w w') :
    DocCopy d.c w (.returned (.agg #[.string d.title, .string d.lang, .int .u8 d.rate, .bool d.drop, .int .i64 d.last, .slice a1 d.regs.length c1, .slice (some ⟨g, 0, none⟩) d.evs.length cap, .slice a3 d.cms.length c3])) w' := by
  obtain ⟨zs, z1, z2, z3, z4, z5, z6⟩ := hR
  have hgl := z3.lt g rfl
  have hF : ∀ b, b < wc.heap.size → w.heap.size + 2 ≤ b → w'.heap[b]? = wc.heap[b]? := fun b h1 h2 => by
    rw [hw'.2 b (by omega), z6 b (by omega) (by omega), h45.2 b h1 (by omega)]
  refine ⟨⟨d.title, d.lang, d.rate, d.drop, d.last, a1, c1, d.regs, some ⟨g, 0, none⟩, cap, zs, a3, c3, d.cms⟩, by simp only [Doc.enc, z1], by simp only [Doc.c, Doc.hd, z2], ⟨SliceOf.frame hS1 (by omega) (fun b hu => ?_) (fun _ _ _ => trivial), ?_, SliceOf.frame hS3 (by omega) (fun b hu => ?_) (fun _ _ _ => trivial)⟩, fun b hu => ?_, hb⟩
  · have h1 := sUses_lt hS1 hu
    obtain ⟨_, ad, h2, rfl⟩ := hu
    exact hF _ h1 (hf1 ad h2)
  · rw [← z1] at z3
    obtain ⟨a', c', he, hS⟩ := sliceOf_owns (k := 7) (enc := Ev.enc) (Ok := Ev.lies) (fun _ => rfl) z3 (fun z hz => by
      obtain ⟨j, hj, rfl⟩ := List.getElem_of_mem hz
      exact (z4 j _ (List.getElem?_eq_getElem hj)).1)
    simp only [Value.slice.injEq] at he
    obtain ⟨rfl, _, rfl⟩ := he
    refine EvsAt.frame hS hw'.1 fun b hu => hw'.2 b ?_
    rcases hu with ⟨_, ad, e, rfl⟩ | ⟨z, hz, hu⟩
    · obtain rfl := Option.some.inj e
      simp only
      omega
    · obtain ⟨j, hj, rfl⟩ := List.getElem_of_mem hz
      have := ((z4 j _ (List.getElem?_eq_getElem hj)).2 b hu).2 (by rw [← z1]; exact hj)
      omega
  · have h1 := sUses_lt hS3 hu
    obtain ⟨_, ad, h2, rfl⟩ := hu
    exact hF _ h1 (hf3 ad h2)
  · rcases hu with ⟨_, ad, h2, rfl⟩ | (⟨_, ad, e, rfl⟩ | ⟨z, hz, hu⟩) | ⟨_, ad, h2, rfl⟩
    · have := hf1 ad h2
      omega
    · obtain rfl := Option.some.inj e
      simp only
      omega
    · obtain ⟨j, hj, rfl⟩ := List.getElem_of_mem hz
      have := ((z4 j _ (List.getElem?_eq_getElem hj)).2 b hu).2 (by rw [← z1]; exact hj)
      omega
    · have := hf3 ad h2
      omega
theorem clone_fin0 {d : Doc} {w wc w' : World} {a1 a2 a3 : Option Addr} {c1 c2 c3 : Nat} (hS1 : SliceOf 7 Reg.enc Flat wc a1 d.regs) (hS3 : SliceOf 8 Cm.enc Flat wc a3 d.cms) (hf1 : ∀ ad, a1 = some ad → w.heap.size + 2 ≤ ad.block) (hf3 : ∀ ad, a3 = some ad → w.heap.size + 2 ≤ ad.block)
    (h0 : d.evs = []) (hw' : wc.heap.size ≤ w'.heap.size ∧ ∀ b, b < wc.heap.size → w.heap.size + 2 ≤ b → w'.heap[b]? = wc.heap[b]?) (hb : Below w.heap.size w w') :
    DocCopy d.c w (.returned (.agg #[.string d.title, .string d.lang, .int .u8 d.rate, .bool d.drop, .int .i64 d.last, .slice a1 d.regs.length c1, .slice a2 0 c2, .slice a3 d.cms.length c3])) w' := by
  refine ⟨⟨d.title, d.lang, d.rate, d.drop, d.last, a1, c1, d.regs, a2, c2, [], a3, c3, d.cms⟩, rfl, by simp only [Doc.c, Doc.hd, h0], ⟨SliceOf.frame hS1 hw'.1 (fun b hu => ?_) (fun _ _ _ => trivial), .inl rfl, SliceOf.frame hS3 hw'.1 (fun b hu => ?_) (fun _ _ _ => trivial)⟩, fun b hu => ?_, hb⟩
  · have h1 := sUses_lt hS1 hu
    obtain ⟨_, ad, h2, rfl⟩ := hu
    exact hw'.2 _ h1 (hf1 ad h2)
  · have h1 := sUses_lt hS3 hu
    obtain ⟨_, ad, h2, rfl⟩ := hu
    exact hw'.2 _ h1 (hf3 ad h2)
  · rcases hu with ⟨_, ad, h2, rfl⟩ | (⟨h, _⟩ | ⟨z, hz, hu⟩) | ⟨_, ad, h2, rfl⟩
    · have := hf1 ad h2
      omega
    · exact absurd rfl h
    · simp at hz
    · have := hf3 ad h2
      omega
set_option maxRecDepth 100000 in
set_option maxHeartbeats 6400000 in
theorem docClone_calls (d : Doc) (w : World) (hd : d.lies w) (hf : d.fits) : Calls Tryz.prog 54 #[.agg d.enc.toArray] w (DocCopy d.c w) := by
  have HFE := Lib.hid (fun (zs : List Ev) (z : Ev) (j : Nat) (h : zs[j]? = some z) (e : zs.map Ev.c = d.evs.map Ev.c) => (show z.rows.length ≤ 4000000 ∧ ∀ r ∈ z.rows, r.runs.length ≤ 4000000 from by
    have h1 : (d.evs.map Ev.c)[j]? = some z.c := by rw [← e, List.getElem?_map, h]; rfl
    rw [List.getElem?_map] at h1
    obtain ⟨x, hx, hxc⟩ := Option.map_eq_some_iff.1 h1
    have hfx := hf.2.2.2.2.2.2.2.1 x (List.mem_of_getElem? hx)
    have hr : x.rows.map Row.runs = z.rows.map Row.runs := congrArg EvC.rows hxc
    have hl := congrArg List.length hr
    simp only [List.length_map] at hl
    refine ⟨by have := hfx.2.2.2.2.2.2.2.2; omega, fun r hr' => ?_⟩
    have : r.runs ∈ x.rows.map Row.runs := by rw [hr]; exact List.mem_map.2 ⟨r, hr', rfl⟩
    obtain ⟨r0, h0, he⟩ := List.mem_map.1 this
    rw [← he]
    exact (hfx.2.2.2.2.2.2.2.1 r0 h0).2.1))
  have HCR := Lib.hid (fun (w1 : World) (h : Below w.heap.size w w1) => clone106_calls d.ra d.rc d.regs w1 (hd.1.later h) hf.2.2.2.2.2.2.1)
  have HCC := Lib.hid (fun (w1 : World) (h : Below w.heap.size w w1) => clone107_calls d.ca d.cc d.cms w1 (hd.2.2.later h) hf.2.2.2.2.2.2.2.2.2.2)
  have HCE := Lib.hid (fun (w1 : World) (h : Below w.heap.size w w1) => clone108_calls d.ea d.ec d.evs w1 (hd.2.1.later h) hf.2.2.2.2.2.2.2.2.1)
  have HEV := Lib.hid (fun (w1 : World) (h : Below w.heap.size w w1) => hd.2.1.later h)
  have HQ := Lib.hid (fun (d' : Doc) (w' : World) (h1 : d'.c = d.c) (h2 : d'.lies w') (h3 : ∀ b, d'.uses b → w.heap.size ≤ b) (h4 : Below w.heap.size w w') => (show DocCopy d.c w (.returned (.agg d'.enc.toArray)) w' from ⟨d', rfl, h1, h2, h3, h4⟩))
  have hel := hf.2.2.2.2.2.2.2.2.1
  have HQ1 := Lib.hid (fun (wc w5 wr w' : World) (a1 a3 : Option Addr) (c1 c3 g cap : Nat) hS1 hS3 hf1 hf3 h45 hg hR hw' hb => clone_fin (d := d) (w := w) (wc := wc) (w5 := w5) (wr := wr) (w' := w') (a1 := a1) (a3 := a3) (c1 := c1) (c3 := c3) (g := g) (cap := cap) hS1 hS3 hf1 hf3 h45 hg hR hw' hb)
  have HQ0 := Lib.hid (fun (wc w' : World) (a1 a2 a3 : Option Addr) (c1 c2 c3 : Nat) hS1 hS3 hf1 hf3 h0 hw' hb => clone_fin0 (d := d) (w := w) (wc := wc) (w' := w') (a1 := a1) (a2 := a2) (a3 := a3) (c1 := c1) (c2 := c2) (c3 := c3) hS1 hS3 hf1 hf3 h0 hw' hb)
  generalize DocCopy d.c w = Q at *
  obtain ⟨title, lang, rate, drop, last, ra, rc, regs, ea, ec, evs, ca, cc, cms⟩ := d
  simp only [Doc.enc] at *
  clear hd hf
  generalize hds : #[Value.string title, .string lang, .int .u8 rate, .bool drop, .int .i64 last, .slice ra regs.length rc, .slice ea evs.length ec, .slice ca cms.length cc] = ds
  obtain ⟨zd, hzd⟩ : ∃ zd : Array Value, zd = #[.string ⟨#[]⟩, .string ⟨#[]⟩, .int .u8 0, .bool false, .int .i64 0, .slice none 0 0, .slice none 0 0, .slice none 0 0] := ⟨_, rfl⟩
  have f5 := box2_fst w ds zd 27 27 5 (.slice ra regs.length rc) (by rw [← hds]; rfl)
  have f6 := box2_fst w ds zd 27 27 6 (.slice ea evs.length ec) (by rw [← hds]; rfl)
  have f7 := box2_fst w ds zd 27 27 7 (.slice ca cms.length cc) (by rw [← hds]; rfl)
  have HB := Lib.hid (fun (w1 : World) (h : Below (w.heap.size + 2) ((w.alloc (.cells ds 27)).alloc (.cells zd 27)) w1) => box2_below h)
  have hb0 : Below (w.heap.size + 2) ((w.alloc (.cells ds 27)).alloc (.cells zd 27)) ((w.alloc (.cells ds 27)).alloc (.cells zd 27)) := Below.refl _ _
  have hsz : ((w.alloc (.cells ds 27)).alloc (.cells zd 27)).heap.size = w.heap.size + 2 := by simp
  have hk1 : ((w.alloc (.cells ds 27)).alloc (.cells zd 27)).heap[w.heap.size]? = some (.cells ds 27 (0, 0)) := by
    rw [Below.heap_alloc _ _ _ (by simp)]
    exact heap_alloc_last w _
  have hk2 : ((w.alloc (.cells ds 27)).alloc (.cells zd 27)).heap[w.heap.size + 1]? = some (.cells zd 27 (0, 0)) := by
    have := heap_alloc_last (w.alloc (.cells ds 27)) (.cells zd 27)
    rwa [World.size_alloc] at this
  rw [hzd] at f5 f6 f7 HB hb0 hsz hk1 hk2
  clear hzd zd
  generalize hW0 : (w.alloc (.cells ds 27)).alloc (.cells #[.string ⟨#[]⟩, .string ⟨#[]⟩, .int .u8 0, .bool false, .int .i64 0, .slice none 0 0, .slice none 0 0, .slice none 0 0] 27) = W0 at *
  have HW0 := Lib.hid hW0
  have HSZ := Lib.hid hsz
  have HK1 := Lib.hid hk1
  have HK2 := Lib.hid hk2
  have HDS := Lib.hid hds
  have HT0 := Lib.hid (fun (w2 w3 : World) (h : Below (w.heap.size + 2) W0 w2) (h3 : Below w2.heap.size w2 w3) => (h.trans (h3.mono (by have := h.size; rw [HSZ.out] at this; exact this)) : Below (w.heap.size + 2) W0 w3))
  have HLT := Lib.hid (fun (w2 : World) (h : Below (w.heap.size + 2) W0 w2) => (show w.heap.size + 2 ≤ w2.heap.size by have := h.size; rw [HSZ.out] at this; exact this))
  have hbd : Below (w.heap.size + 2) W0 W0.drew := hb0.drew
  have zf : ∀ (w' : World), Below (w.heap.size + 2) W0 w' → ∀ (j : Nat), w'.frozen? ⟨w.heap.size, j, none⟩ = false := fun w' h j => by simp [World.frozen?, (h.block w.heap.size (by omega)).trans HK1.out]
  clear hW0 hsz hk1 hk2
  go_enter Tryz.func54, Tryz.ntmps54
  subst hds
  go_upto_region 1 with fail
  rw [HW0.out]
  go_cut [] (fun wx => ∃ a1 c1 a3 c3, wx.heap[w.heap.size]? = some (.cells #[Value.string title, .string lang, .int .u8 rate, .bool drop, .int .i64 last, .slice a1 regs.length c1, .slice ea evs.length ec, .slice a3 cms.length c3] 27 (0, 0)) ∧ wx.heap[w.heap.size + 1]? = some (.cells #[.string ⟨#[]⟩, .string ⟨#[]⟩, .int .u8 0, .bool false, .int .i64 0, .slice none 0 0, .slice none 0 0, .slice none 0 0] 27 (0, 0)) ∧ SliceOf 7 Reg.enc Flat wx a1 regs ∧ SliceOf 8 Cm.enc Flat wx a3 cms ∧ (∀ ad, a1 = some ad → w.heap.size + 2 ≤ ad.block) ∧ (∀ ad, a3 = some ad → w.heap.size + 2 ≤ ad.block) ∧ Below w.heap.size w wx ∧ w.heap.size + 2 ≤ wx.heap.size)
  case first =>
    go_region_with (first
      | (go_at_call 106; refine (HCR.out _ (HB.out _ hbd)).mono ?_; rintro e w1 ⟨v1, rfl, ho1, hb1⟩; have hc1 := HT0.out _ _ hbd hb1; obtain ⟨a1, c1, rfl, hS1⟩ := sliceOf_owns (k := 7) (enc := Reg.enc) (Ok := Flat) (fun _ => rfl) ho1 (fun _ _ => trivial); have HF1 := Lib.hid (fun ad (e : a1 = some ad) => (ho1.lt ad.block (by rw [e]; rfl)).1); have HS1 := Lib.hid hS1; clear ho1 hb1 hS1)
      | (go_at_call 107; refine (HCC.out _ (HB.out _ hc1)).mono ?_; rintro e w3 ⟨v3, rfl, ho3, hb3⟩; have hc3 := HT0.out _ _ hc1 hb3; obtain ⟨a3, c3, rfl, hS3⟩ := sliceOf_owns (k := 8) (enc := Cm.enc) (Ok := Flat) (fun _ => rfl) ho3 (fun _ _ => trivial); have HF3 := Lib.hid (fun ad (e : a3 = some ad) => (ho3.lt ad.block (by rw [e]; rfl)).1); have HS3 := Lib.hid hS3; have HB3 := Lib.hid hb3; clear ho3 hb3 hS3))
    all_goals
      have hk3 := (hc3.block w.heap.size (by omega)).trans HK1.out
      have hz3 := (hc3.block (w.heap.size + 1) (by omega)).trans HK2.out
      have hs0 := HSZ.out
      have HFX1 := Lib.hid (fun (ad : Addr) (e : a1 = some ad) => (show w.heap.size + 2 ≤ ad.block from by rw [← hs0]; exact HF1.out ad e))
      have HFX3 := Lib.hid (fun (ad : Addr) (e : a3 = some ad) => (show w.heap.size + 2 ≤ ad.block from by have := HF3.out ad e; have := HLT.out _ hc1; omega))
      clear f5 f6 f7 zf
      go_wp2_with fail
      go_meet
      refine ⟨a1, c1, a3, c3, ?_, ?_, slice_set2 (SliceOf.keeps Flat.keeps _ _ _ _ HB3.out HS1.out) (fun ad e => by have := HFX1.out ad e; omega), slice_set2 HS3.out (fun ad e => by have := HFX3.out ad e; omega), HFX1.out, HFX3.out, Below.setCell (Below.setCell (HB.out _ hc3) (by dsimp only; omega) _) (by dsimp only; omega) _, by have := HLT.out _ hc3; simpa using this⟩
      · exact heap_setCell_same _ _ _ _ _ _ (heap_setCell_same _ _ _ _ _ _ hk3)
      · rw [Below.heap_setCell _ _ _ _ (by simp), Below.heap_setCell _ _ _ _ (by simp)]
        exact hz3
  case rest =>
    obtain ⟨a1, c1, a3, c3, hk1, hk2, hS1, hS3, hf1, hf3, hbw, hws⟩ := hcut
    clear hb0 hbd f5 f6 f7 zf HK1 HK2 HT0 HLT
    have c0 : ∀ (j : Nat), wc.cell? ⟨w.heap.size, j, none⟩ = _ := fun j => cell_of_row _ _ j _ 27 (0, 0) hk1
    have HCE1 := Lib.hid (HCE.out _ hbw)
    have HK1 := Lib.hid hk1
    have HK2 := Lib.hid hk2
    have HS1 := Lib.hid hS1
    have HS3 := Lib.hid hS3
    have HF1 := Lib.hid hf1
    have HF3 := Lib.hid hf3
    have HBW := Lib.hid hbw
    clear hk1 hk2 hS1 hS3 hf1 hf3 hbw HCE HCR HCC
    go_wp2_with fail
    refine HCE1.out.mono ?_
    rintro e w4 ⟨v4, rfl, ho4, hb4⟩
    obtain ⟨ae, ce, rfl⟩ : ∃ av cv, v4 = .slice av evs.length cv := by
      rcases ho4.2 with ⟨rfl, h0⟩ | ⟨g, cap, _, rfl, _⟩
      · exact ⟨none, 0, by rw [h0]⟩
      · exact ⟨_, _, rfl⟩
    have hk4 := (hb4.block w.heap.size (by omega)).trans HK1.out
    have c4 : ∀ (j : Nat), w4.cell? ⟨w.heap.size, j, none⟩ = _ := fun j => cell_of_row _ _ j _ 27 (0, 0) hk4
    have z4 : ∀ (j : Nat), w4.frozen? ⟨w.heap.size, j, none⟩ = false := fun j => by simp [World.frozen?, hk4]
    obtain ⟨w5, hw5⟩ : ∃ w5, w5 = w4.setCell ⟨w.heap.size, 6, none⟩ (.slice ae evs.length ce) := ⟨_, rfl⟩
    have HW5 := Lib.hid hw5
    have hk5 : w5.heap[w.heap.size]? = some (.cells #[Value.string title, .string lang, .int .u8 rate, .bool drop, .int .i64 last, .slice a1 regs.length c1, .slice ae evs.length ce, .slice a3 cms.length c3] 27 (0, 0)) := hw5 ▸ heap_setCell_same _ _ _ _ _ _ hk4
    have hz5 : w5.heap[w.heap.size + 1]? = some (.cells #[.string ⟨#[]⟩, .string ⟨#[]⟩, .int .u8 0, .bool false, .int .i64 0, .slice none 0 0, .slice none 0 0, .slice none 0 0] 27 (0, 0)) := by
      rw [hw5, Below.heap_setCell _ _ _ _ (by simp), hb4.block _ (by omega)]
      exact HK2.out
    have h45 : wc.heap.size ≤ w5.heap.size ∧ ∀ b, b < wc.heap.size → b ≠ w.heap.size → w5.heap[b]? = wc.heap[b]? := by
      refine ⟨by rw [hw5]; simpa using hb4.size, fun b h1 h2 => ?_⟩
      rw [hw5, Below.heap_setCell _ _ _ _ (by simpa using h2), hb4.block b h1]
    have hb5 : Below w.heap.size w w5 := by
      rw [hw5]
      exact (HBW.out.trans (hb4.mono HBW.out.size)).setCell (by simp) _
    have c5 : ∀ (j : Nat), w5.cell? ⟨w.heap.size, j, none⟩ = _ := fun j => cell_of_row _ _ j _ 27 (0, 0) hk5
    have ho5 : w5.ownsRow wc.heap.size 50 7 (.slice ae evs.length ce) evs.length (evs.flatMap Ev.enc) := by
      rw [hw5]
      refine World.ownsRow.kept ho4 (row := some w.heap.size) ⟨rfl, rfl, rfl, by simp, fun k _ hk => Below.heap_setCell _ _ _ _ (fun e => hk (by simp [e]))⟩ (Classical.or_iff_not_imp_left.2 fun _ e => ?_)
      have := (ho4.lt _ e).1
      omega
    have HH45 := Lib.hid h45
    have HB5 := Lib.hid hb5
    have HK5 := Lib.hid hk5
    have HZ5 := Lib.hid hz5
    have hs5 := h45.1
    clear hw5 hk4 hb4 ho4 h45 hb5 hk5 hz5 c0 HCE1
    go_wp2_with fail
    rw [← HW5.out]
    have cz : ∀ (w' : World), w'.heap[w.heap.size + 1]? = w5.heap[w.heap.size + 1]? → ∀ (j : Nat), w'.cell? ⟨w.heap.size + 1, j, none⟩ = _ := fun w' h j => cell_of_row _ _ j _ 27 (0, 0) (h.trans HZ5.out)
    have zz : ∀ (w' : World), w'.heap[w.heap.size + 1]? = w5.heap[w.heap.size + 1]? → ∀ (j : Nat), w'.frozen? ⟨w.heap.size + 1, j, none⟩ = false := fun w' h j => by simp [World.frozen?, h.trans HZ5.out]
    by_cases he : evs.length = 0
    · obtain rfl := List.eq_nil_of_length_eq_zero he
      have cz5 := cz w5 rfl
      have zz5 := zz w5 rfl
      clear cz zz ho5 c4 z4
      simp only [List.length_nil] at *
      refine wp_loop_rounds 1 ?_
      rw [rounds_succ]
      go_wp2_with fail
      refine bodyPost_ret (v := .agg #[.string title, .string lang, .int .u8 rate, .bool drop, .int .i64 last, .slice a1 regs.length c1, .slice ae 0 ce, .slice a3 cms.length c3]) (by simp [results, Tryz.results54, go_sem, cz5]) rfl ?_
      refine HQ0.out wc _ a1 ae a3 c1 ce c3 HS1.out HS3.out HF1.out HF3.out (by first | rfl | trivial) ⟨?_, fun b h1 h2 => ?_⟩ ?_
      · simpa using HH45.out.1
      · repeat rw [Below.heap_setCell _ _ _ _ (by simp only; omega)]
        exact HH45.out.2 b h1 (by omega)
      · repeat refine Below.setCell ?_ (by simp only; omega) _
        exact HB5.out
    · obtain ⟨g, cp, hve⟩ := ownForm ho5 (by omega)
      simp only [Value.slice.injEq, true_and] at hve
      obtain ⟨rfl, rfl⟩ := hve
      have hgl := ho5.lt g rfl
      have hgw := hgl.1
      have hg5 := hgl.2
      have HR0 := Lib.hid (show EvsRel (w.heap.size + 2) evs g ce 0 w5 w5 from ⟨evs, rfl, rfl, ⟨ho5.1, ho5.2.imp id (fun ⟨g, cap, cur, q1, q2, q3⟩ => ⟨g, cap, cur, q1, by omega, q3⟩)⟩, fun j z hz => ⟨evs_each (HEV.out w5 HB5.out) (List.mem_of_getElem? hz), fun b hu => ⟨by
        have := Ev.uses_lt (evs_each (HEV.out w (Below.refl _ _)) (List.mem_of_getElem? hz)) hu
        omega, fun h => by omega⟩⟩, Nat.le_refl _, fun _ _ _ => rfl⟩)
      have HCZ := Lib.hid cz
      have HZZ := Lib.hid zz
      clear ho5 cz zz c4 z4 c5 hgl HEV
      go_loopw [20] (fun i wr => ∃ k : Nat, k ≤ evs.length ∧ i = .int .i64 k ∧ EvsRel (w.heap.size + 2) evs g ce k w5 wr ∧ Below w.heap.size w wr) (fun i _ => evs.length - (intOf i).toNat)
      case atStart => exact ⟨0, by omega, rfl, HR0.out, HB5.out⟩
      case round =>
        clear HR0
        obtain ⟨k, hk, rfl, hR, hbr⟩ := hrel
        have HRR := Lib.hid hR
        obtain ⟨zs, z1, z2, z3, z4, z5, z6⟩ := hR
        have HBR := Lib.hid hbr
        have hkr := (z6 w.heap.size (by omega) (by omega)).trans HK5.out
        by_cases hlt : k < evs.length
        · have hzk : zs[k]? = some zs[k] := List.getElem?_eq_getElem (by omega)
          generalize zs[k] = z at hzk
          have hgr : g < wr.heap.size := (z3.lt g rfl).2
          have dd : ∀ (j : Nat) (v : Value), z.enc[j]? = some v → wr.cell? ⟨g, k * 7 + j, none⟩ = some v := fun j v hv => by
            have hj : j < 7 := (List.getElem?_eq_some_iff.1 hv).1
            rw [z3.cellAt (k * 7 + j) (by omega)]
            exact flat_at Ev.enc 7 (fun _ => rfl) zs k z j v hzk hv
          have hfz := HFE.out zs z k hzk z2
          have hzl := (z4 k z hzk).1
          obtain ⟨xe, hxe⟩ : ∃ xe, xe = z.enc.toArray := ⟨_, rfl⟩
          have HCL := Lib.hid (fun (w1 : World) (h : Below wr.heap.size wr w1) => evClone_calls z w1 (Ev.keeps _ _ _ h hzl) hfz.2 hfz.1)
          have HST := Lib.hid (fun (w1 w2 : World) (y : Ev) hb hyc hyl hyu hw => EvsRel.step (w1 := w1) (w2 := w2) (y := y) hzk z1 z2 z3 z4 z5 z6 (by omega) hb hyc hyl hyu hw)
          have HFR := Lib.hid (fun (w1 : World) (h : Below wr.heap.size wr w1) (j : Nat) => (owns_below z3 h).frozenAt j)
          generalize z.c = zc at HCL HST
          obtain ⟨zid, zin, zout, zreg, zkind, zsp, za, zcp, zrows⟩ := z
          have d0 := dd 0 _ rfl; have d1 := dd 1 _ rfl; have d2 := dd 2 _ rfl; have d3 := dd 3 _ rfl; have d4 := dd 4 _ rfl; have d5 := dd 5 _ rfl; have d6 := dd 6 _ rfl
          simp only [Nat.add_zero] at d0
          simp only [Ev.enc] at HCL
          clear dd hzk hzl hfz z1 z2 z3 z4 z6 hxe xe hbr
          obtain ⟨wa, hwa⟩ : ∃ wa, wa = wr.alloc (.cells #[.int .i64 zid, .int .i64 zin, .int .i64 zout, .string zreg, .int .u8 zkind, .string zsp, .slice za zrows.length zcp] 50) := ⟨_, rfl⟩
          have HWA := Lib.hid hwa
          have hra : Below wr.heap.size wr wa := hwa ▸ (Below.refl _ _).alloc (Nat.le_refl _) _
          have hka : wa.heap[wr.heap.size]? = some (.cells #[.int .i64 zid, .int .i64 zin, .int .i64 zout, .string zreg, .int .u8 zkind, .string zsp, .slice za zrows.length zcp] 50 (0, 0)) := hwa ▸ heap_alloc_last wr _
          have hla : wr.heap.size < wa.heap.size := by rw [hwa]; simp
          have cr := fun (j : Nat) => cell_of_row wr w.heap.size j _ 27 (0, 0) hkr
          have ba : ∀ (w' : World), Below wa.heap.size wa w' → ∀ (j : Nat), w'.cell? ⟨wr.heap.size, j, none⟩ = _ := fun w' h j => cell_of_row _ _ j _ 50 (0, 0) ((h.block _ hla).trans hka)
          have bd : ∀ (w' : World), Below wa.heap.size wa w' → ∀ (j : Nat), w'.cell? ⟨w.heap.size, j, none⟩ = _ := fun w' h j => cell_of_row _ _ j _ 27 (0, 0) ((h.block w.heap.size (by omega)).trans ((hra.block w.heap.size (by omega)).trans hkr))
          have HRA := Lib.hid hra
          have e0 := fun (w' : World) (h : Below wa.heap.size wa w') => (h.cell (p := ⟨g, k * 7, none⟩) (by simp only; omega)).trans ((hra.cell (p := ⟨g, k * 7, none⟩) hgr).trans d0)
          have e1 := fun (w' : World) (h : Below wa.heap.size wa w') => (h.cell (p := ⟨g, k * 7 + 1, none⟩) (by simp only; omega)).trans ((hra.cell (p := ⟨g, k * 7 + 1, none⟩) hgr).trans d1)
          have e2 := fun (w' : World) (h : Below wa.heap.size wa w') => (h.cell (p := ⟨g, k * 7 + 2, none⟩) (by simp only; omega)).trans ((hra.cell (p := ⟨g, k * 7 + 2, none⟩) hgr).trans d2)
          have e3 := fun (w' : World) (h : Below wa.heap.size wa w') => (h.cell (p := ⟨g, k * 7 + 3, none⟩) (by simp only; omega)).trans ((hra.cell (p := ⟨g, k * 7 + 3, none⟩) hgr).trans d3)
          have e4 := fun (w' : World) (h : Below wa.heap.size wa w') => (h.cell (p := ⟨g, k * 7 + 4, none⟩) (by simp only; omega)).trans ((hra.cell (p := ⟨g, k * 7 + 4, none⟩) hgr).trans d4)
          have e5 := fun (w' : World) (h : Below wa.heap.size wa w') => (h.cell (p := ⟨g, k * 7 + 5, none⟩) (by simp only; omega)).trans ((hra.cell (p := ⟨g, k * 7 + 5, none⟩) hgr).trans d5)
          have e6 := fun (w' : World) (h : Below wa.heap.size wa w') => (h.cell (p := ⟨g, k * 7 + 6, none⟩) (by simp only; omega)).trans ((hra.cell (p := ⟨g, k * 7 + 6, none⟩) hgr).trans d6)
          have ez := fun (w' : World) (h : Below wa.heap.size wa w') (j : Nat) => HFR.out w' (HRA.out.trans (h.mono HRA.out.size)) j
          have had : Below wa.heap.size wa wa.drew := (Below.refl _ _).drew
          clear hwa hka hkr hra
          go_upto_region 6 with fail
          rw [← HWA.out]
          clear d0 d1 d2 d3 d4 d5 d6 cr
          go_region_with (go_at_call 40; refine (HCL.out _ (HRA.out.trans (had.mono HRA.out.size))).mono ?_; rintro e w1 ⟨y, rfl, hyc, hyl, hyu, hyb⟩; have hw1 : Below wa.heap.size wa w1 := had.trans hyb; have HY := Lib.hid (And.intro hyc (And.intro hyl hyu)); clear hyc hyl hyu hyb; obtain ⟨yid, yin, yout, yreg, ykind, ysp, ya, ycp, yrows⟩ := y; simp only [Ev.enc])
          all_goals
            have hrw := HRA.out.trans (hw1.mono HRA.out.size)
            have R := Lib.hid (HST.out w1 _ (⟨yid, yin, yout, yreg, ykind, ysp, ya, ycp, yrows⟩ : Ev) hrw HY.out.1 HY.out.2.1 (fun b hu => Nat.le_trans HRA.out.size (HY.out.2.2 b hu)) rfl)
            have HRW := Lib.hid hrw
            clear HY HST HCL HFR hrw
            go_wp2_with fail
            go_roundw
            case rel =>
              refine ⟨k + 1, by omega, by go_num, R.out, ?_⟩
              repeat refine Below.setCell ?_ (by simp only; omega) _
              exact HBR.out.trans (HRW.out.mono HBR.out.size)
            all_goals first | (simp [intOf]; done) | (simp [intOf]; omega)
        · obtain rfl : k = evs.length := by omega
          have hzr := z6 (w.heap.size + 1) (by omega) (by omega)
          have czr := HCZ.out wr hzr
          have zzr := HZZ.out wr hzr
          have cr := fun (j : Nat) => cell_of_row wr w.heap.size j _ 27 (0, 0) hkr
          clear z1 z2 z3 z4 z6 hkr hzr hbr
          go_wp2_with fail
          refine bodyPost_ret (v := .agg #[.string title, .string lang, .int .u8 rate, .bool drop, .int .i64 last, .slice a1 regs.length c1, .slice (some ⟨g, 0, none⟩) evs.length ce, .slice a3 cms.length c3]) (by simp [results, Tryz.results54, go_sem, czr]) rfl ?_
          refine HQ1.out wc w5 wr _ a1 a3 c1 c3 g ce HS1.out HS3.out HF1.out HF3.out HH45.out hgw HRR.out ⟨?_, fun b hb => ?_⟩ ?_
          · simp
          · repeat rw [Below.heap_setCell _ _ _ _ (by simpa using hb)]
          · repeat refine Below.setCell ?_ (by simp only; omega) _
            exact HBR.out
end Go.Proofs.YtnlnmbcaongehaaGreatDoor
namespace Go.Proofs.YtnlnmbcaongehaaGreatDoor
open Go.RowKit
def zeroDocA : Array Value := #[.string ⟨#[]⟩, .string ⟨#[]⟩, .int .u8 0, .bool false, .int .i64 0, .slice none 0 0, .slice none 0 0, .slice none 0 0]
theorem zeroDocA_one : zeroDocA.all (·.oneCell') = true := by kernel_rfl
theorem size27 : (Tryz.prog.info? 27).map (·.size) = some 8 := by kernel_rfl
theorem Doc.one : ∀ (x : Doc) (v : Value), v ∈ x.enc → v.oneCell' = true := by
  intro x v hv
  simp only [Doc.enc, List.mem_cons, List.not_mem_nil, or_false] at hv
  rcases hv with rfl | rfl | rfl | rfl | rfl | rfl | rfl | rfl <;> rfl
/-- What one change does to the document behind the pointer: St tells the error and the document. -/
def StepPost (St : Int → Doc → Prop) (d : Doc) (g : Nat) (w : World) (e : Ending) (w' : World) : Prop :=
  ∃ (err : Int) (d' : Doc), e = .returned (.int .i64 err) ∧ DocAt d' g w' ∧ (∀ b, d'.uses b → d.uses b ∨ w.heap.size ≤ b) ∧ w.grownBy w' (some g) ∧ St err d'
def PatchRel (St : Nat → Doc → Prop) (w : World) (k : Nat) (wr : World) : Prop :=
  ∃ d' : Doc, DocAt d' w.heap.size wr ∧ St k d' ∧ (∀ b, d'.uses b → w.heap.size + 2 ≤ b) ∧ wr.heap[w.heap.size + 1]? = some (.cells zeroDocA 27 (0, 0)) ∧ Below w.heap.size w wr
/-- An error, or a document of the call's own. -/
def PatchPost (Fin : Doc → Prop) (Bad : Int → Prop) (w : World) (e : Ending) (w' : World) : Prop :=
  (∃ err, Bad err ∧ err ≠ 0 ∧ e = .returned (.tuple #[.agg zeroDocA, .int .i64 err]) ∧ Below w.heap.size w w') ∨
  (∃ d' : Doc, Fin d' ∧ docErr d' = 0 ∧ e = .returned (.tuple #[.agg d'.enc.toArray, .int .i64 0]) ∧ d'.lies w' ∧ (∀ b, d'.uses b → w.heap.size ≤ b) ∧ Below w.heap.size w w')
theorem PatchRel.start {St : Nat → Doc → Prop} {w w2 : World} {d2 : Doc} {cs : Array Value} (hk : w2.heap[w.heap.size]? = some (.cells cs 27 (0, 0))) (hz : w2.heap[w.heap.size + 1]? = some (.cells zeroDocA 27 (0, 0))) (hl : d2.lies w2) (hu : ∀ b, d2.uses b → w.heap.size + 2 ≤ b) (hb : Below w.heap.size w w2) (h0 : St 0 d2) :
    PatchRel St w 0 (w2.setRow w.heap.size d2.enc.toArray) :=
  ⟨d2, ⟨setRow_heap w2 _ cs _ 27 (0, 0) hk, Doc.frame hl (by simp) (fun b h => setRow_other w2 _ b _ (by have := hu b h; omega)), fun b h => by have := hu b h; omega⟩, h0, hu, by rw [setRow_other _ _ _ _ (by omega)]; exact hz, below_setRow hb (Nat.le_refl _) _⟩
theorem PatchRel.step {St : Nat → Doc → Prop} {w wr w1 w2 : World} {d' d2 : Doc} {k : Nat} (h3 : ∀ b, d'.uses b → w.heap.size + 2 ≤ b) (h4 : wr.heap[w.heap.size + 1]? = some (.cells zeroDocA 27 (0, 0))) (h5 : Below w.heap.size w wr) (hb : Below wr.heap.size wr w1)
    (q1 : DocAt d2 w.heap.size w2) (q2 : ∀ b, d2.uses b → d'.uses b ∨ w1.heap.size ≤ b) (q3 : w1.grownBy w2 (some w.heap.size)) (q4 : St k d2) : PatchRel St w k w2 := by
  have hlt : w.heap.size + 1 < wr.heap.size := (Array.getElem?_eq_some_iff.1 h4).1
  have hs := hb.size
  refine ⟨d2, q1, q4, fun b h => ?_, ?_, ?_⟩
  · rcases q2 b h with h | h
    · exact h3 b h
    · omega
  · rw [q3.block _ (by omega) (by simp), hb.block _ hlt]
    exact h4
  · exact (h5.trans (hb.mono h5.size)).grown q3 (by have := h5.size; omega) (fun j hj => Nat.le_of_eq (Option.some.inj hj))
theorem patch_fin {Fin : Doc → Prop} {Bad : Int → Prop} {w w5 : World} {d' : Doc} (hf : Fin d') (h0 : docErr d' = 0) (hl : d'.lies w5) (hu : ∀ b, d'.uses b → w.heap.size + 2 ≤ b) (hb : Below w.heap.size w w5) :
    PatchPost Fin Bad w (.returned (.tuple #[.agg d'.enc.toArray, .int .i64 0])) (w5.setRow (w.heap.size + 1) d'.enc.toArray) :=
  .inr ⟨d', hf, h0, rfl, Doc.frame hl (by simp) (fun b h => setRow_other w5 _ b _ (by have := hu b h; omega)), fun b h => by have := hu b h; omega, below_setRow hb (by omega) _⟩
theorem patch_bad {Fin : Doc → Prop} {Bad : Int → Prop} {w w5 : World} {err : Int} (cs : Array Value) (hf : Bad err) (h0 : err ≠ 0) (hb : Below w.heap.size w w5) :
    PatchPost Fin Bad w (.returned (.tuple #[.agg zeroDocA, .int .i64 err])) (w5.setRow (w.heap.size + 1) cs) :=
  .inl ⟨err, hf, h0, rfl, below_setRow hb (by omega) _⟩
set_option maxRecDepth 100000 in
set_option maxHeartbeats 6400000 in
theorem patch_calls (St : Nat → Doc → Prop) (Bad : Int → Prop) (d : Doc) (a : Option Addr) (cap : Nat) (xs : List Chg) (w : World)
    (hE : Env w) (hd : d.lies w) (hf : d.fits) (h0 : docErr d = 0) (hx : ChgAt w a xs) (hl : xs.length ≤ 40000000)
    (hS0 : ∀ d' : Doc, d'.c = d.c → St 0 d') (hSf : ∀ k d', St k d' → d'.fits) (hSb : ∀ d', St xs.length d' → docErr d' ≠ 0 → Bad (docErr d'))
    (hAP : ∀ (k : Nat) (x : Chg) (d' : Doc) (g : Nat) (w' : World), xs[k]? = some x → St k d' → DocAt d' g w' → x.lies w' → Calls Tryz.prog 55 #[.pointer (some ⟨g, 0, none⟩), .agg x.enc.toArray] w' (StepPost (fun err d2 => (err = 0 → St (k + 1) d2) ∧ (err ≠ 0 → Bad err)) d' g w')) :
    Calls Tryz.prog 14 #[.agg d.enc.toArray, .slice a xs.length cap] w (PatchPost (St xs.length) Bad w) := by
  have HFIN := Lib.hid (fun (w5 : World) (d' : Doc) h1 h2 h3 h4 h5 => patch_fin (Fin := St xs.length) (Bad := Bad) (w := w) (w5 := w5) (d' := d') h1 h2 h3 h4 h5)
  have HBAD := Lib.hid (fun (w5 : World) (err : Int) (cs : Array Value) h1 h2 h3 => patch_bad (Fin := St xs.length) (Bad := Bad) (w := w) (w5 := w5) (err := err) cs h1 h2 h3)
  generalize PatchPost (St xs.length) Bad w = Q at *
  have HCK := Lib.hid (fun (d' : Doc) (w1 : World) (h : Below w.heap.size w w1) (h1 : d'.lies w1) (h2 : d'.fits) => docCheck_calls d' w1 (hE.below h (Nat.le_refl _)) h1 h2)
  have HCK0 := Lib.hid (fun (w1 : World) (h : Below w.heap.size w w1) => (docCheck_calls d w1 (hE.below h (Nat.le_refl _)) (Doc.later hd h) hf).mono (fun e w' p => (show e = .returned (.int .i64 0) ∧ Below w1.heap.size w1 w' from ⟨by rw [p.1, h0], p.2⟩)))
  have HCL := Lib.hid (fun (w1 : World) (h : Below w.heap.size w w1) => docClone_calls d w1 (Doc.later hd h) hf)
  have HX := Lib.hid hx
  have HS0 := Lib.hid hS0
  have HSF := Lib.hid hSf
  have HSB := Lib.hid hSb
  have HAP := Lib.hid hAP
  clear hE hd hf h0 hx hS0 hSf hSb hAP
  have HDI := Lib.hid (show (Tryz.prog.info? 27).map (·.size) = some d.enc.length from size27)
  generalize hdl : d.enc = dl at *
  have hk1 : ((w.alloc (.cells dl.toArray 27)).alloc (.cells zeroDocA 27)).heap[w.heap.size]? = some (.cells dl.toArray 27 (0, 0)) := by
    rw [Below.heap_alloc _ _ _ (by simp)]
    exact heap_alloc_last w _
  have hk2 : ((w.alloc (.cells dl.toArray 27)).alloc (.cells zeroDocA 27)).heap[w.heap.size + 1]? = some (.cells zeroDocA 27 (0, 0)) := by
    have := heap_alloc_last (w.alloc (.cells dl.toArray 27)) (.cells zeroDocA 27)
    rwa [World.size_alloc] at this
  have hb0 : Below (w.heap.size + 2) ((w.alloc (.cells dl.toArray 27)).alloc (.cells zeroDocA 27)) ((w.alloc (.cells dl.toArray 27)).alloc (.cells zeroDocA 27)) := Below.refl _ _
  have HB := Lib.hid (fun (w1 : World) (h : Below (w.heap.size + 2) ((w.alloc (.cells dl.toArray 27)).alloc (.cells zeroDocA 27)) w1) => box2_below h)
  have hsz : ((w.alloc (.cells dl.toArray 27)).alloc (.cells zeroDocA 27)).heap.size = w.heap.size + 2 := by simp
  have hw0 : (w.alloc (.cells dl.toArray 27)).alloc (.cells #[.string ⟨#[]⟩, .string ⟨#[]⟩, .int .u8 0, .bool false, .int .i64 0, .slice none 0 0, .slice none 0 0, .slice none 0 0] 27) = (w.alloc (.cells dl.toArray 27)).alloc (.cells zeroDocA 27) := rfl
  generalize (w.alloc (.cells dl.toArray 27)).alloc (.cells zeroDocA 27) = W0 at *
  have HW0 := Lib.hid hw0
  have HSZ := Lib.hid hsz
  have HK1 := Lib.hid hk1
  have HK2 := Lib.hid hk2
  have HDL := Lib.hid hdl
  have HT0 := Lib.hid (fun (w2 w3 : World) (h : Below (w.heap.size + 2) W0 w2) (h3 : Below w2.heap.size w2 w3) => (h.trans (h3.mono (by have := h.size; rw [HSZ.out] at this; exact this)) : Below (w.heap.size + 2) W0 w3))
  have HLT := Lib.hid (fun (w2 : World) (h : Below (w.heap.size + 2) W0 w2) => (show w.heap.size + 2 ≤ w2.heap.size by have := h.size; rw [HSZ.out] at this; exact this))
  have HR1 := Lib.hid (fun (w1 : World) (h : Below (w.heap.size + 2) W0 w1) => range_row ((h.block w.heap.size (by omega)).trans HK1.out))
  clear hw0 hsz hk1 hk2 hdl
  go_enter Tryz.func14, Tryz.ntmps14
  go_upto_region 1 with fail
  rw [HW0.out]
  go_wp2_with (refine wpList_load_mid rfl 27 (.tmp 2) rfl w.heap.size 0 rfl dl _ (HR1.out _ hb0) Tryz.underlying27 rfl HDI.out ?_)
  refine (HCK0.out _ (HB.out _ hb0)).mono ?_
  rintro e w1 ⟨rfl, hb1⟩
  have hc1 := HT0.out _ _ hb0 hb1
  clear hb1 HCK0
  go_wp2_with (refine wpList_load_mid rfl 27 (.tmp 2) rfl w.heap.size 0 rfl dl _ (HR1.out _ hc1) Tryz.underlying27 rfl HDI.out ?_)
  refine (HCL.out _ (HB.out _ hc1)).mono ?_
  rintro e w2 ⟨d2, rfl, hcc2, hl2, hu2, hb2⟩
  have hc2 := HT0.out _ _ hc1 hb2
  have hk2 := (hc2.block w.heap.size (by omega)).trans HK1.out
  have hz2 := (hc2.block (w.heap.size + 1) (by omega)).trans HK2.out
  have hlt1 := HLT.out _ hc1
  have H0 := Lib.hid (PatchRel.start (St := St) hk2 hz2 hl2 (fun b h => by have := hu2 b h; omega) (HB.out _ hc2) (HS0.out d2 hcc2))
  have HDL2 := Lib.hid (show dl.toArray.size = d2.enc.toArray.size from by rw [← HDL.out]; rfl)
  have HD2I := Lib.hid (show (Tryz.prog.info? 27).map (·.size) = some d2.enc.toArray.size from size27)
  have H2C := Lib.hid (one_all (Doc.one d2))
  have HK2' := Lib.hid hk2
  clear hcc2 hl2 hu2 hb2 hk2 hz2 HCL HS0 hlt1
  generalize d2.enc.toArray = ds2 at *
  go_wp2_with (refine wpList_store_row rfl 27 (.tmp 2) (.tmp 18) rfl w.heap.size ds2 rfl rfl 27 _ HK2'.out HD2I.out HDL2.out H2C.out ?_)
  clear HDL2 HD2I H2C HK2' hc2 hc1 hb0
  go_loopw [21] (fun i wr => ∃ k : Nat, k ≤ xs.length ∧ i = .int .i64 k ∧ PatchRel St w k wr) (fun i _ => xs.length - (intOf i).toNat)
  case atStart => exact ⟨0, by omega, rfl, H0.out⟩
  case round =>
    obtain ⟨k, hk, rfl, hR⟩ := hrel
    clear H0
    obtain ⟨d', q1, q2, q3, q4, q5⟩ := hR
    have hgr := (Array.getElem?_eq_some_iff.1 q4).1
    by_cases hlt : k < xs.length
    · obtain ⟨b, off, x, rfl, hbl, hxk, hc, hxl⟩ := (SliceOf.keeps Chg.keeps _ _ _ _ q5 HX.out).at_ hlt
      have hbA : Below wr.heap.size wr (wr.alloc (.cells x.enc.toArray 54)) := (Below.refl _ _).alloc (Nat.le_refl _) _
      have HCALL := Lib.hid (HAP.out k x d' w.heap.size (wr.alloc (.cells x.enc.toArray 54)) hxk q2 (q1.below hbA) (Chg.keeps _ _ _ hbA hxl))
      have HNEXT := Lib.hid (fun (w5 : World) (d2 : Doc) (p1 : DocAt d2 w.heap.size w5) p2 p3 (p4 : St (k + 1) d2) => PatchRel.step (k := k + 1) q3 q4 q5 hbA p1 p2 p3 p4)
      have HERR := Lib.hid (fun (w5 : World) (err : Int) (p3 : (wr.alloc (.cells x.enc.toArray 54)).grownBy w5 (some w.heap.size)) => (show w5.heap[w.heap.size + 1]? = some (.cells zeroDocA 27 (0, 0)) ∧ Below w.heap.size w w5 from ⟨by
        rw [p3.block _ (by have := hbA.size; omega) (by simp), hbA.block _ hgr]
        exact q4, (q5.trans (hbA.mono q5.size)).grown p3 (by have := q5.size; have := hbA.size; omega) (fun j hj => Nat.le_of_eq (Option.some.inj hj))⟩))
      have HRG := Lib.hid (show wr.rangeAt b (off + k * 59) x.enc from fun j v e => hc j v e)
      have HSZ5 := Lib.hid (show (Tryz.prog.info? 54).map (·.size) = some x.enc.length from by rw [size54, Chg.len])
      have HRB := Lib.hid (range_row (heap_alloc_last wr (.cells x.enc.toArray 54)))
      have H1C := Lib.hid (one_all (Chg.one x))
      have HL := Lib.hid (show x.enc.toArray.size = 59 from rfl)
      have HI := Lib.hid (show (Tryz.prog.info? 54).map (·.size) = some x.enc.toArray.size from by rw [HSZ5.out]; simp)
      generalize x.enc = xe at *
      clear hc hxk hxl q1 q2 q3 q4 q5 hbA
      go_wp2_with (first | (refine wpList_load_mid rfl 54 (.tmp 23) rfl b (off + k * 59) rfl xe _ HRG.out Tryz.underlying54 rfl HSZ5.out ?_) | (refine wpList_store_row rfl 54 (.tmp 8) (.tmp 24) rfl wr.heap.size xe.toArray rfl rfl 54 _ (heap_alloc_last wr _) HI.out HL.out.symm H1C.out ?_; rw [World.setRow_alloc_new]) | (refine wpList_load_mid rfl 54 (.tmp 8) rfl wr.heap.size 0 rfl xe _ HRB.out Tryz.underlying54 rfl HSZ5.out ?_))
      refine HCALL.out.mono ?_
      rintro e w5 ⟨err, d5, rfl, p1, p2, p3, p4⟩
      by_cases he : err = 0
      · subst he
        have HN := Lib.hid (HNEXT.out w5 d5 p1 p2 p3 (p4.1 rfl))
        clear HCALL HNEXT HERR p1 p2 p3 p4
        go_wp2_with fail
        go_roundw
        case rel => exact ⟨k + 1, by omega, by go_num, HN.out⟩
        case measure => simp [intOf]; omega
      · have hne : (err != 0) = true := by simpa using he
        obtain ⟨z5, b5⟩ := HERR.out w5 err p3
        have HE := Lib.hid (HBAD.out w5 err zeroDocA (p4.2 he) he b5)
        have HZ5 := Lib.hid z5
        have cz : ∀ (j : Nat), (w5.setRow (w.heap.size + 1) zeroDocA).cell? ⟨w.heap.size + 1, j, none⟩ = zeroDocA[j]? := fun j => cell_setRow_same _ _ _ _ _ _ _ z5
        simp only [zeroDocA] at cz
        have HZI := Lib.hid (show (Tryz.prog.info? 27).map (·.size) = some zeroDocA.size from size27)
        clear HCALL HNEXT HERR p1 p2 p3 p4 z5 b5
        go_wp2_with (refine wpList_store_row rfl 27 (.tmp 4) (.tmp 29) rfl (w.heap.size + 1) #[.string ⟨#[]⟩, .string ⟨#[]⟩, .int .u8 0, .bool false, .int .i64 0, .slice none 0 0, .slice none 0 0, .slice none 0 0] rfl rfl 27 _ HZ5.out size27 rfl zeroDocA_one ?_)
        refine bodyPost_ret (v := .tuple #[.agg zeroDocA, .int .i64 err]) (by simp [results, Tryz.results14, go_sem, zeroDocA, cz]) rfl HE.out
    · obtain rfl : k = xs.length := by omega
      have hdf := HSF.out _ _ q2
      have HCK1 := Lib.hid (HCK.out d' wr q5 q1.lies hdf)
      have HR1' := Lib.hid (fun (w1 : World) (h : Below wr.heap.size wr w1) => range_row ((q1.below h).cells))
      have HDI' := Lib.hid (show (Tryz.prog.info? 27).map (·.size) = some d'.enc.length from size27)
      have HZZ := Lib.hid (fun (w1 : World) (h : Below wr.heap.size wr w1) => (h.block _ hgr).trans q4)
      have HB5 := Lib.hid (fun (w1 : World) (h : Below wr.heap.size wr w1) => (q5.trans (h.mono q5.size)))
      have HF5 := Lib.hid (fun (w1 : World) (h : Below wr.heap.size wr w1) (h0 : docErr d' = 0) => HFIN.out w1 d' q2 h0 (q1.below h).lies q3 (q5.trans (h.mono q5.size)))
      have HS5 := Lib.hid (HSB.out d' q2)
      have H5C := Lib.hid (one_all (Doc.one d'))
      clear q1 q2 q3 q4 q5 hdf HX HAP HSF HSB HCK
      obtain ⟨title, lang, rate, drop, last, ra, rc, regs, ea, ec, evs, ca, cc, cms⟩ := d'
      generalize docErr _ = ERR at *
      simp only [Doc.enc] at *
      go_wp2_with (refine wpList_load_mid rfl 27 (.tmp 2) rfl w.heap.size 0 rfl _ _ (HR1'.out _ (Below.refl _ _)) Tryz.underlying27 rfl HDI'.out ?_)
      refine HCK1.out.mono ?_
      rintro e w5 ⟨rfl, hb5⟩
      have HZ5 := Lib.hid (HZZ.out _ hb5)
      by_cases he : ERR = 0
      · subst he
        have HE := Lib.hid (HF5.out w5 hb5 rfl)
        have HRW := Lib.hid (HR1'.out _ hb5)
        have cz : ∀ (cs : Array Value) (j : Nat), (w5.setRow (w.heap.size + 1) cs).cell? ⟨w.heap.size + 1, j, none⟩ = cs[j]? := fun cs j => cell_setRow_same _ _ _ _ _ _ _ HZ5.out
        clear HR1' HZZ HB5 HF5 HS5 HCK1 hb5
        go_wp2_with (first | (refine wpList_load_mid rfl 27 (.tmp 2) rfl w.heap.size 0 rfl _ _ HRW.out Tryz.underlying27 rfl HDI'.out ?_) | (refine wpList_store_row rfl 27 (.tmp 4) (.tmp 38) rfl (w.heap.size + 1) _ rfl rfl 27 _ HZ5.out HDI'.out rfl H5C.out ?_))
        refine bodyPost_ret (v := .tuple #[.agg #[.string title, .string lang, .int .u8 rate, .bool drop, .int .i64 last, .slice ra regs.length rc, .slice ea evs.length ec, .slice ca cms.length cc], .int .i64 0]) (by simp [results, Tryz.results14, go_sem, cz]) rfl HE.out
      · have hne : (ERR != 0) = true := by simpa using he
        have HE := Lib.hid (HBAD.out w5 ERR zeroDocA (HS5.out he) he (HB5.out _ hb5))
        have cz : ∀ (j : Nat), (w5.setRow (w.heap.size + 1) zeroDocA).cell? ⟨w.heap.size + 1, j, none⟩ = zeroDocA[j]? := fun j => cell_setRow_same _ _ _ _ _ _ _ HZ5.out
        simp only [zeroDocA] at cz
        have HZI := Lib.hid (show (Tryz.prog.info? 27).map (·.size) = some zeroDocA.size from size27)
        clear HR1' HZZ HB5 HF5 HS5 HCK1 hb5
        go_wp2_with (refine wpList_store_row rfl 27 (.tmp 4) (.tmp 36) rfl (w.heap.size + 1) #[.string ⟨#[]⟩, .string ⟨#[]⟩, .int .u8 0, .bool false, .int .i64 0, .slice none 0 0, .slice none 0 0, .slice none 0 0] rfl rfl 27 _ HZ5.out size27 rfl zeroDocA_one ?_)
        refine bodyPost_ret (v := .tuple #[.agg zeroDocA, .int .i64 ERR]) (by simp [results, Tryz.results14, go_sem, zeroDocA, cz]) rfl HE.out
end Go.Proofs.YtnlnmbcaongehaaGreatDoor
namespace Go.Proofs.YtnlnmbcaongehaaGreatDoor
open Go.RowKit
def awHd : Hd := ⟨sNo, sNo, 3, false, 1⟩
def awMidC : DocC := ⟨awHd, [], [(awEvA none 0 none 0).c], []⟩
/-- The contents behind the first k changes. -/
def awStC : Nat → DocC
  | 0 => (awA none 0 none 0 none 0 none 0 none 0).c
  | 1 => awMidC
  | _ => (awB none 0 none 0 none 0 none 0 none 0).c
theorem awEvA_fits : (awEvA none 0 none 0).fits := by
  refine ⟨⟨by decide, by decide⟩, ⟨by decide, by decide⟩, ⟨by decide, by decide⟩, by decide, by decide, by decide, by decide, fun r hr => ?_, by decide⟩
  obtain rfl : r = ⟨none, 0, [⟨sA, 0, false, false, sNo⟩]⟩ := by simpa [awEvA, awRows] using hr
  refine ⟨fun x hx => ?_, by decide, by decide⟩
  obtain rfl : x = ⟨sA, 0, false, false, sNo⟩ := by simpa using hx
  exact ⟨by decide, by decide, by decide, by decide⟩
theorem awEv_fits {e : Ev} (h : e.c = (awEvA none 0 none 0).c ∨ e.c = (awEvB none 0 none 0).c) : e.fits := by
  have hB : (awEvB none 0 none 0).fits := by
    refine ⟨⟨by decide, by decide⟩, ⟨by decide, by decide⟩, ⟨by decide, by decide⟩, by decide, by decide, by decide, by decide, fun r hr => ?_, by decide⟩
    obtain rfl : r = ⟨none, 0, [⟨sA, 0, false, false, sNo⟩]⟩ := by simpa [awEvB, awRows] using hr
    refine ⟨fun x hx => ?_, by decide, by decide⟩
    obtain rfl : x = ⟨sA, 0, false, false, sNo⟩ := by simpa using hx
    exact ⟨by decide, by decide, by decide, by decide⟩
  rcases h with h | h
  · exact ev_fits_c (by have h0 : e.id = 1 := congrArg EvC.id h
                        rw [h0]
                        exact ⟨by decide, by decide⟩) (congrArg EvC.inn h) (congrArg EvC.out h) (congrArg EvC.region h) (congrArg EvC.kind h) (congrArg EvC.speaker h) (congrArg EvC.rows h) awEvA_fits
  · exact ev_fits_c (by have h0 : e.id = 1 := congrArg EvC.id h
                        rw [h0]
                        exact ⟨by decide, by decide⟩) (congrArg EvC.inn h) (congrArg EvC.out h) (congrArg EvC.region h) (congrArg EvC.kind h) (congrArg EvC.speaker h) (congrArg EvC.rows h) hB
theorem aw_fits_of {d : Doc} (h1 : d.hd = awHd) (h2 : d.regs = [] ∨ d.regs = [awReg]) (h3 : d.evs.map Ev.c = [(awEvA none 0 none 0).c] ∨ d.evs.map Ev.c = [(awEvB none 0 none 0).c]) (h4 : d.cms = []) : d.fits := by
  have e1 : d.title = sNo := congrArg Hd.title h1
  have e2 : d.lang = sNo := congrArg Hd.lang h1
  have e3 : d.rate = 3 := congrArg Hd.rate h1
  have e5 : d.last = 1 := congrArg Hd.last h1
  have he : ∃ e, d.evs = [e] ∧ (e.c = (awEvA none 0 none 0).c ∨ e.c = (awEvB none 0 none 0).c) := by
    rcases h3 with h3 | h3
    · obtain ⟨e, h, hc⟩ := one_ev h3
      exact ⟨e, h, .inl hc⟩
    · obtain ⟨e, h, hc⟩ := one_ev h3
      exact ⟨e, h, .inr hc⟩
  obtain ⟨e, he, hc⟩ := he
  refine ⟨by rw [e1]; decide, by rw [e2]; decide, by rw [e3]; decide, by rw [e3]; decide, by rw [e5]; exact ⟨by decide, by decide⟩, fun r hr => ?_, ?_, fun x hx => ?_, ?_, fun c hc => ?_, ?_⟩
  · rcases h2 with h2 | h2
    · rw [h2] at hr
      simp at hr
    · rw [h2] at hr
      obtain rfl : r = awReg := by simpa using hr
      exact ⟨by decide, ⟨by decide, by decide⟩, ⟨by decide, by decide⟩, ⟨by decide, by decide⟩, ⟨by decide, by decide⟩, by decide, by decide⟩
  · rcases h2 with h2 | h2 <;> rw [h2] <;> simp
  · rw [he] at hx
    obtain rfl : x = e := by simpa using hx
    exact awEv_fits hc
  · rw [he]
    simp
  · rw [h4] at hc
    simp at hc
  · rw [h4]
    simp
theorem aw_fits : ∀ (k : Nat) (d : Doc), d.c = awStC k → d.fits
  | 0, d, h => aw_fits_of (congrArg DocC.hd h) (.inr (congrArg DocC.regs h)) (.inl (congrArg DocC.evs h)) (congrArg DocC.cms h)
  | 1, d, h => aw_fits_of (congrArg DocC.hd h) (.inl (congrArg DocC.regs h)) (.inl (congrArg DocC.evs h)) (congrArg DocC.cms h)
  | _ + 2, d, h => aw_fits_of (congrArg DocC.hd h) (.inl (congrArg DocC.regs h)) (.inr (congrArg DocC.evs h)) (congrArg DocC.cms h)
theorem ApplyPost.step {St : Int → Doc → Prop} {err : Int} {c' : DocC} {d : Doc} {g : Nat} {w : World} {e : Ending} {w' : World} (h : ApplyPost err c' d g w e w') (hS : ∀ d' : Doc, d'.c = c' → St err d') : StepPost St d g w e w' := by
  obtain ⟨rfl, d', h1, h2, h3, h4, h5⟩ := h
  exact ⟨err, d', rfl, ⟨h1, h3, fun b hu => (h4 b hu).1⟩, fun b hu => (h4 b hu).2, h5, hS d' h2⟩
/-- A change's events lie in memory and fit. -/
theorem aw_evs {x : Chg} (h : x.c = awC2) : i64 x.id ∧ x.oe.fits ∧ x.ne.fits := by
  simp only [Chg.c, awC2, ChgC.mk.injEq] at h
  obtain ⟨_, h2, _, _, _, _, _, _, _, h10, h11, _, _⟩ := h
  exact ⟨by rw [h2]; exact ⟨by decide, by decide⟩, awEv_fits (.inl h10), awEv_fits (.inr h11)⟩
theorem aw_step (k : Nat) (x : Chg) (xs : List Chg) (d : Doc) (g : Nat) (w : World) (hxs : xs.map Chg.c = [awC1, awC2]) (hx : xs[k]? = some x) (hS : d.c = awStC k) (hd : DocAt d g w) (hl : x.lies w) :
    Calls Tryz.prog 55 #[.pointer (some ⟨g, 0, none⟩), .agg x.enc.toArray] w (StepPost (fun err d2 => (err = 0 → d2.c = awStC (k + 1)) ∧ (err ≠ 0 → False)) d g w) := by
  have hxc : [awC1, awC2][k]? = some x.c := by rw [← hxs, List.getElem?_map, hx]; rfl
  match k, hxc, hS with
  | 0, hxc, hS =>
    have hxc : x.c = awC1 := (Option.some.inj hxc).symm
    obtain ⟨h1, h2, h3, h4, h5, h6⟩ := awC1_fields hxc
    have hr : d.regs = [awReg] := congrArg DocC.regs hS
    obtain ⟨e0, e1⟩ := aw_reg hr hxc
    have hc := applyReg_calls d g x w h1 (fun h => absurd (h.symm.trans h3) (by decide)) hd (by rw [hr]; simp)
    rw [e0, e1] at hc
    refine hc.mono fun e w' p => p.step fun d' hd' => ⟨fun _ => ?_, fun h => absurd rfl h⟩
    rw [hd']
    have q1 : d.hd = awHd := congrArg DocC.hd hS
    have q2 : d.evs.map Ev.c = [(awEvA none 0 none 0).c] := congrArg DocC.evs hS
    have q3 : d.cms = [] := congrArg DocC.cms hS
    rw [q1, q2, q3]
    rfl
  | 1, hxc, hS =>
    have hxc : x.c = awC2 := (Option.some.inj hxc).symm
    have hev : d.evs.map Ev.c = [(awEvA none 0 none 0).c] := congrArg DocC.evs hS
    obtain ⟨h1, h2, h3, h4, h5, h6⟩ := aw_ev (ra := none) (rc := 0) (ua := none) (uc := 0) hev hxc
    obtain ⟨i1, i2, i3⟩ := aw_evs hxc
    have hf := aw_fits 1 d hS
    obtain ⟨e0, he0, hec⟩ := one_ev hev
    have hc := applyEv_calls d g x w h1 (fun h => absurd (h.symm.trans h2) (by decide)) hd hl i1 hf.2.2.2.2.2.2.2.1 i2 i3 (by rw [he0]; simp)
    refine hc.mono fun e w' p => ?_
    unfold EvPost at p
    rw [if_pos h4] at p
    obtain ⟨rfl, d', y, p1, p2, p3, p4, p5, p6, p7, p8, p9, p10⟩ := p
    refine ⟨0, d', rfl, ⟨p1, p8, fun b hu => (p9 b hu).1⟩, fun b hu => (p9 b hu).2, p10, fun _ => ?_, fun h => absurd rfl h⟩
    rw [h5 y, List.map_cons, List.map_nil, p2, h6] at p6
    have q1 : d.hd = awHd := congrArg DocC.hd hS
    have q2 : d.regs = [] := congrArg DocC.regs hS
    have q3 : d.cms = [] := congrArg DocC.cms hS
    have q4 : d'.evs.map Ev.c = [(awEvB none 0 none 0).c] := List.perm_singleton.1 p6
    show Doc.c d' = _
    unfold Doc.c
    rw [p3, p4, p5, q1, q2, q3, q4]
    rfl
  | _ + 2, hxc, hS => simp at hxc
end Go.Proofs.YtnlnmbcaongehaaGreatDoor
