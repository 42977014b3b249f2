/- Documents in memory, and the contract of document.anchored: the first error of the numbers of a comment. -/
import Derived.Test.YtdgakmpopgpijaaGreatDoorEvCheck
import Derived.Test.YtdgakmpopgpijaaGreatDoorMaps
set_option linter.unusedVariables false
namespace Go.Proofs.YtdgakmpopgpijaaGreatDoor
open Go.RowKit

/-- A comment. -/
structure Cm where
  id : Int
  ev : Int
  frm : Int
  til : Int
  author : ByteArray
  text : ByteArray
  done : Bool
  lost : Bool

def Cm.enc (c : Cm) : List Value := [.int .i64 c.id, .int .i64 c.ev, .int .i64 c.frm, .int .i64 c.til, .string c.author, .string c.text, .bool c.done, .bool c.lost]
def Cm.fits (c : Cm) : Prop := i64 c.id ∧ i64 c.ev ∧ i64 c.frm ∧ i64 c.til ∧ c.author.size ≤ 4000000 ∧ c.text.size ≤ 4000000

/-- A document, with the places of its lists. -/
structure Doc where
  title : ByteArray
  lang : ByteArray
  rate : Int
  drop : Bool
  last : Int
  ra : Option Addr
  rc : Nat
  regs : List Reg
  ea : Option Addr
  ec : Nat
  evs : List Ev
  ca : Option Addr
  cc : Nat
  cms : List Cm

def Doc.enc (d : Doc) : List Value := [.string d.title, .string d.lang, .int .u8 d.rate, .bool d.drop, .int .i64 d.last, .slice d.ra d.regs.length d.rc, .slice d.ea d.evs.length d.ec, .slice d.ca d.cms.length d.cc]
def EvsAt (w : World) (a : Option Addr) (xs : List Ev) : Prop := SliceOf 7 Ev.enc Ev.lies w a xs
theorem EvsAt.later {w w' : World} {a : Option Addr} {xs : List Ev} (h : EvsAt w a xs) (hb : Below w.heap.size w w') : EvsAt w' a xs := SliceOf.keeps Ev.keeps w w' a xs hb h
def CmsAt (w : World) (a : Option Addr) (xs : List Cm) : Prop := SliceOf 8 Cm.enc Flat w a xs
theorem CmsAt.later {w w' : World} {a : Option Addr} {xs : List Cm} (h : CmsAt w a xs) (hb : Below w.heap.size w w') : CmsAt w' a xs := SliceOf.keeps Flat.keeps w w' a xs hb h
def Doc.lies (w : World) (d : Doc) : Prop := Regs w d.ra d.regs ∧ EvsAt w d.ea d.evs ∧ CmsAt w d.ca d.cms
theorem Doc.later {w w' : World} {d : Doc} (h : d.lies w) (hb : Below w.heap.size w w') : d.lies w' := ⟨h.1.later hb, h.2.1.later hb, h.2.2.later hb⟩
def Doc.fits (d : Doc) : Prop := d.title.size ≤ 4000000 ∧ d.lang.size ≤ 4000000 ∧ 0 ≤ d.rate ∧ d.rate ≤ 255 ∧ i64 d.last ∧ (∀ r ∈ d.regs, r.fits) ∧ d.regs.length ≤ 4000000 ∧ (∀ x ∈ d.evs, x.fits) ∧ d.evs.length ≤ 4000000 ∧ (∀ c ∈ d.cms, c.fits) ∧ d.cms.length ≤ 4000000

/-- The first error of the numbers of a comment; f: where events lie. -/
def anchErr (last : Int) (f : Int → Option Nat) (evs : List Ev) (c : Cm) : Int :=
  if c.ev < 1 ∨ last < c.ev then 2 else if c.lost then (if c.frm ≠ 0 ∨ c.til ≠ 0 then 2 else 0) else match f c.ev with
    | none => 6
    | some i => if c.frm < 0 ∨ c.til ≤ c.frm ∨ evLen ((evs[i]?.map Ev.rows).getD []) < c.til then 2 else 0

theorem anch_cases (last : Int) (f : Int → Option Nat) (evs : List Ev) (c : Cm) (hf : ∀ z i, f z = some i → i < evs.length) :
    (anchErr last f evs c = 2 ∧ c.ev < 1) ∨ (anchErr last f evs c = 2 ∧ 1 ≤ c.ev ∧ last < c.ev) ∨ (1 ≤ c.ev ∧ c.ev ≤ last ∧
      ((c.lost = true ∧ ((anchErr last f evs c = 2 ∧ c.frm ≠ 0) ∨ (anchErr last f evs c = 2 ∧ c.frm = 0 ∧ c.til ≠ 0) ∨ (anchErr last f evs c = 0 ∧ c.frm = 0 ∧ c.til = 0))) ∨
       (c.lost = false ∧ ((f c.ev = none ∧ anchErr last f evs c = 6) ∨ ∃ i x, f c.ev = some i ∧ i < evs.length ∧ evs[i]? = some x ∧
          ((anchErr last f evs c = 2 ∧ c.frm < 0) ∨ (anchErr last f evs c = 2 ∧ 0 ≤ c.frm ∧ c.til ≤ c.frm) ∨ (0 ≤ c.frm ∧ c.frm < c.til ∧ ((anchErr last f evs c = 2 ∧ evLen x.rows < c.til) ∨ (anchErr last f evs c = 0 ∧ c.til ≤ evLen x.rows)))))))) := by
  unfold anchErr
  by_cases h1 : c.ev < 1
  · left; simp [h1]
  right
  by_cases h2 : last < c.ev
  · left; simp [h1, h2]; omega
  right
  refine ⟨by omega, by omega, ?_⟩
  rw [if_neg (by omega)]
  cases hl : c.lost
  · right
    refine ⟨rfl, ?_⟩
    cases hq : f c.ev with
    | none => left; simp
    | some i =>
      right
      have hi := hf _ _ hq
      refine ⟨i, evs[i], rfl, hi, List.getElem?_eq_getElem hi, ?_⟩
      simp only [List.getElem?_eq_getElem hi, Option.map_some, Option.getD_some, Bool.false_eq_true, if_false]
      by_cases h3 : c.frm < 0
      · left; simp [h3]
      right
      by_cases h4 : c.til ≤ c.frm
      · left; simp [h4]; omega
      right
      refine ⟨by omega, by omega, ?_⟩
      by_cases h5 : evLen evs[i].rows < c.til
      · left; simp [h5]
      · right; rw [if_neg (by omega)]; exact ⟨rfl, by omega⟩
  · left
    refine ⟨rfl, ?_⟩
    simp only [if_true]
    by_cases h3 : c.frm = 0
    · by_cases h4 : c.til = 0
      · right; right; simp [h3, h4]
      · right; left; simp [h3, h4]
    · left; simp [h3]

theorem cell_keep {W w' : World} {B b o : Nat} {v : Value} (h : W.cell? ⟨b, o, none⟩ = some v) (hB : b < B) (hb : Below B W w') : w'.cell? ⟨b, o, none⟩ = some v :=
  (hb.cell (p := ⟨b, o, none⟩) hB).trans h
/-- Two boxes, in every later world. -/
theorem box2_fst (w : World) (cs cs' : Array Value) (t t' : TypeId) (j : Nat) (v : Value) (h : cs[j]? = some v) (w' : World) (hb : Below (w.heap.size + 2) ((w.alloc (.cells cs t)).alloc (.cells cs' t')) w') : w'.cell? ⟨w.heap.size, j, none⟩ = some v := by
  refine cell_keep ?_ (by omega) hb
  rw [World.cell?_alloc_lt _ _ _ (by simp), cell_of_row _ _ j cs t (0, 0) (heap_alloc_last w _), h]
theorem box2_snd (w : World) (cs cs' : Array Value) (t t' : TypeId) (j : Nat) (v : Value) (h : cs'[j]? = some v) (w' : World) (hb : Below (w.heap.size + 2) ((w.alloc (.cells cs t)).alloc (.cells cs' t')) w') : w'.cell? ⟨w.heap.size + 1, j, none⟩ = some v := by
  refine cell_keep ?_ (by omega) hb
  have := heap_alloc_last (w.alloc (.cells cs t)) (.cells cs' t')
  rw [World.size_alloc] at this
  rw [cell_of_row _ _ j cs' t' (0, 0) this, h]
theorem box2_below {w w' : World} {o o' : Obj} (hb : Below (w.heap.size + 2) ((w.alloc o).alloc o') w') : Below w.heap.size w w' :=
  (((Below.refl _ _).alloc (Nat.le_refl _) _).alloc (by simp) _).trans (hb.mono (by omega))

set_option maxRecDepth 100000 in
set_option maxHeartbeats 6400000 in
theorem anchored_calls (d : Doc) (c : Cm) (b n : Nat) (f : Int → Option Nat) (w : World) (hE : Env w) (hd : EvsAt w d.ea d.evs) (hfd : ∀ x ∈ d.evs, x.fits) (hle : d.evs.length ≤ 4000000) (hc : c.fits) (hM : IMap w b n f) (hf : ∀ z i, f z = some i → i < d.evs.length) :
    Calls Tryz.prog 74 #[.agg d.enc.toArray, .agg c.enc.toArray, .map (some b)] w fun e w' => e = .returned (.int .i64 (anchErr d.last f d.evs c)) ∧ Below w.heap.size w w' := by
  have hcs := anch_cases d.last f d.evs c hf
  generalize anchErr d.last f d.evs c = G at *
  obtain ⟨title, lang, rate, drop, last, ra, rc, regs, ea, ec, evs, ca, cc, cms⟩ := d
  obtain ⟨_, hi2, hi3, hi4, _, _⟩ := hc
  obtain ⟨id, ev, frm, til, author, text, done, lost⟩ := c
  simp only at hcs hi2 hi3 hi4 hd hfd hf hle
  simp only [Doc.enc, Cm.enc]
  generalize hds : #[Value.string title, .string lang, .int .u8 rate, .bool drop, .int .i64 last, .slice ra regs.length rc, .slice ea evs.length ec, .slice ca cms.length cc] = ds
  generalize hqs : #[Value.int .i64 id, .int .i64 ev, .int .i64 frm, .int .i64 til, .string author, .string text, .bool done, .bool lost] = qs
  have f4 := box2_fst w ds qs 28 116 4 (.int .i64 last) (by rw [← hds]; rfl)
  have f6 := box2_fst w ds qs 28 116 6 (.slice ea evs.length ec) (by rw [← hds]; rfl)
  have g1 := box2_snd w ds qs 28 116 1 (.int .i64 ev) (by rw [← hqs]; rfl)
  have g2 := box2_snd w ds qs 28 116 2 (.int .i64 frm) (by rw [← hqs]; rfl)
  have g3 := box2_snd w ds qs 28 116 3 (.int .i64 til) (by rw [← hqs]; rfl)
  have g7 := box2_snd w ds qs 28 116 7 (.bool lost) (by rw [← hqs]; rfl)
  have HB := Lib.hid (fun (w1 : World) (h : Below (w.heap.size + 2) ((w.alloc (.cells ds 28)).alloc (.cells qs 116)) w1) => box2_below h)
  have hb0 : Below (w.heap.size + 2) ((w.alloc (.cells ds 28)).alloc (.cells qs 116)) ((w.alloc (.cells ds 28)).alloc (.cells qs 116)) := Below.refl _ _
  have hsz : ((w.alloc (.cells ds 28)).alloc (.cells qs 116)).heap.size = w.heap.size + 2 := by simp
  have HLK := Lib.hid ((hM.below (HB.out _ hb0) hM.lt).look hi2)
  generalize hW0 : (w.alloc (.cells ds 28)).alloc (.cells qs 116) = W0 at *
  have HW0 := Lib.hid hW0
  have HSZ := Lib.hid hsz
  have HD := Lib.hid hd
  have HFD := Lib.hid hfd
  clear hW0 hsz hd hfd hf hM
  have hlk := HLK.out
  rw [← HW0.out] at hlk
  clear HLK
  go_enter Tryz.func74, Tryz.ntmps74
  subst hds
  subst hqs
  rcases hcs with ⟨rfl, h1⟩ | ⟨rfl, h1, h2⟩ | ⟨h1, h2, ⟨rfl, ⟨rfl, h3⟩ | ⟨rfl, rfl, h3⟩ | ⟨rfl, rfl, rfl⟩⟩ | ⟨rfl, ⟨hq, rfl⟩ | ⟨i, x, hq, hi, hx, hcs⟩⟩⟩
  · clear hlk
    go_wp2_with fail
    rw [HW0.out]
    go_ret
    exact ⟨rfl, HB.out _ hb0⟩
  · clear hlk
    go_wp2_with fail
    rw [HW0.out]
    go_ret
    exact ⟨rfl, HB.out _ hb0⟩
  · have h3d : (frm != 0) = true := by simpa using h3
    clear hlk h3
    go_wp2_with fail
    rw [HW0.out]
    go_ret
    exact ⟨rfl, HB.out _ hb0⟩
  · have h3d : (til != 0) = true := by simpa using h3
    clear hlk h3
    go_wp2_with fail
    rw [HW0.out]
    go_ret
    exact ⟨rfl, HB.out _ hb0⟩
  · clear hlk
    go_wp2_with fail
    rw [HW0.out]
    go_ret
    exact ⟨rfl, HB.out _ hb0⟩
  · rw [hq] at hlk
    simp only [Option.isSome_none, Option.getD_none] at hlk
    have HLK := Lib.hid hlk
    clear hq hlk
    go_wp2_with (at_lookup; refine wpList_lookup_run _ rfl _ _ _ _ rfl _ _ _ rfl rfl HLK.out ?_)
    rw [HW0.out]
    go_ret
    exact ⟨rfl, HB.out _ hb0⟩
  · rw [hq] at hlk
    simp only [Option.isSome_some, Option.getD_some] at hlk
    have HLK := Lib.hid hlk
    clear hlk
    obtain ⟨bb, off, x', rfl, hbl, hx', hcx, hok0⟩ := HD.out.at_ hi
    have hok := Ev.keeps _ _ _ (HB.out _ hb0) hok0
    obtain rfl : x' = x := Option.some.inj (hx'.symm.trans hx)
    have hfx := HFD.out x' (List.mem_of_getElem? hx)
    have hb0d : Below (w.heap.size + 2) W0 W0.drew := hb0.drew
    have HLen := Lib.hid (evLen_calls x' W0.drew (hE.below (HB.out _ hb0d) (Nat.le_refl _)) (Ev.keeps _ _ _ ((Below.refl W0.heap.size W0).drew) hok) hfx)
    have hcd : ∀ j v, x'.enc[j]? = some v → ∀ w1, Below (w.heap.size + 2) W0 w1 → w1.cell? ⟨bb, off + i * 7 + j, none⟩ = some v := fun j v hv w1 h => by
      rw [(HB.out _ h).cell (p := ⟨bb, off + i * 7 + j, none⟩) hbl]
      exact hcx j v hv
    clear hq hx hx' hcx hok hok0 hfx
    obtain ⟨xid, xin, xout, xreg, xkind, xsp, xa, xc, xrows⟩ := x'
    have HCD := Lib.hid hcd
    simp only [Ev.enc] at HLen hcs HCD
    generalize evLen xrows = L at *
    clear hcd
    rcases hcs with ⟨rfl, h3⟩ | ⟨rfl, h3, h4⟩ | ⟨h3, h4, ⟨rfl, h5⟩ | ⟨rfl, h5⟩⟩
    · have h3d : decide (frm < 0) = true := by simp; omega
      clear HLen hbl
      go_wp2_with (at_lookup; refine wpList_lookup_run _ rfl _ _ _ _ rfl _ _ _ rfl rfl HLK.out ?_)
      rw [HW0.out]
      go_quiet (fail)
      go_wp2_with fail
      go_ret
      exact ⟨rfl, HB.out _ (below_drewN hb0 _)⟩
    · have h3d : decide (frm < 0) = false := by simp; omega
      have h4d : decide (til ≤ frm) = true := by simp; omega
      clear HLen hbl
      go_wp2_with (at_lookup; refine wpList_lookup_run _ rfl _ _ _ _ rfl _ _ _ rfl rfl HLK.out ?_)
      rw [HW0.out]
      go_quiet (fail)
      go_wp2_with fail
      go_ret
      exact ⟨rfl, HB.out _ (below_drewN hb0 _)⟩
    · have h3d : decide (frm < 0) = false := by simp; omega
      have h4d : decide (til ≤ frm) = false := by simp; omega
      have h5d : decide (L < til) = true := by simp; omega
      go_wp2_with (at_lookup; refine wpList_lookup_run _ rfl _ _ _ _ rfl _ _ _ rfl rfl HLK.out ?_)
      rw [HW0.out]
      have d0 := HCD.out 0 _ rfl; have d1 := HCD.out 1 _ rfl; have d2 := HCD.out 2 _ rfl; have d3 := HCD.out 3 _ rfl; have d4 := HCD.out 4 _ rfl; have d5 := HCD.out 5 _ rfl; have d6 := HCD.out 6 _ rfl
      simp only [Nat.add_zero] at d0
      clear HCD HLK HD HFD hE
      go_region_with (go_at_call 117; refine HLen.out.mono ?_; rintro e w1 ⟨rfl, hb1⟩; replace hb1 : Below (w.heap.size + 2) W0 w1 := hb0d.trans (hb1.mono (by have := hb0d.size; rw [HSZ.out] at this; exact this)))
      all_goals
        go_wp2_with fail
        go_ret
        exact ⟨rfl, HB.out _ hb1⟩
    · have h3d : decide (frm < 0) = false := by simp; omega
      have h4d : decide (til ≤ frm) = false := by simp; omega
      have h5d : decide (L < til) = false := by simp; omega
      go_wp2_with (at_lookup; refine wpList_lookup_run _ rfl _ _ _ _ rfl _ _ _ rfl rfl HLK.out ?_)
      rw [HW0.out]
      have d0 := HCD.out 0 _ rfl; have d1 := HCD.out 1 _ rfl; have d2 := HCD.out 2 _ rfl; have d3 := HCD.out 3 _ rfl; have d4 := HCD.out 4 _ rfl; have d5 := HCD.out 5 _ rfl; have d6 := HCD.out 6 _ rfl
      simp only [Nat.add_zero] at d0
      clear HCD HLK HD HFD hE
      go_region_with (go_at_call 117; refine HLen.out.mono ?_; rintro e w1 ⟨rfl, hb1⟩; replace hb1 : Below (w.heap.size + 2) W0 w1 := hb0d.trans (hb1.mono (by have := hb0d.size; rw [HSZ.out] at this; exact this)))
      all_goals
        go_wp2_with fail
        go_ret
        exact ⟨rfl, HB.out _ hb1⟩

end Go.Proofs.YtdgakmpopgpijaaGreatDoor
