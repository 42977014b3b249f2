/- The contract of diff.apply at any change of a document in order, and of diff.Patch at any changes. The changes between two documents in order lead from the one to the other, and their inverses back: the plain law. The changes between two documents in order lead from the one to the other, and their inverses back; there is none just between equal contents. The contract of the reference's Patch, over what one change does to a document. The contracts of diff.Patch and of the reference's Patch at any document and any changes: one and the same. (printed by gen_patchall.py) -/
import Derived.Test.YtnlnmbcaongehaaGreatDoorE02
import Derived.Test.YtnlnmbcaongehaaGreatDoorBase18
import Derived.Test.YtnlnmbcaongehaaGreatDoorBase17
import Derived.Test.YtnlnmbcaongehaaGreatDoorBase09
import Derived.Test.YtnlnmbcaongehaaGreatDoorBase08
import Derived.Test.YtnlnmbcaongehaaGreatDoorBase07
import Derived.Test.YtnlnmbcaongehaaGreatDoorBase06
import Derived.Test.YtnlnmbcaongehaaGreatDoorE00
import Derived.Test.YtnlnmbcaongehaaGreatDoorBase03
import Derived.Test.YtnlnmbcaongehaaGreatDoorBase02
import Derived.Test.YtnlnmbcaongehaaGreatDoorBase01
import Derived.Test.YtnlnmbcaongehaaGreatDoorBase00
import Derived.Test.YtnlnmbcaongehaaGreatDoorBase05
import Derived.Test.YtnlnmbcaongehaaGreatDoorBase16
import Derived.Test.YtnlnmbcaongehaaGreatDoorBase12
import Derived.Test.YtnlnmbcaongehaaGreatDoorBase15
import Derived.Test.YtnlnmbcaongehaaGreatDoorBase14
import Derived.Test.YtnlnmbcaongehaaGreatDoorBase13
import Derived.Test.YtnlnmbcaongehaaGreatDoorBase04
import Derived.Test.YtnlnmbcaongehaaGreatDoorBase20
import Derived.Test.YtnlnmbcaongehaaGreatDoorE01
set_option linter.unusedVariables false
set_option linter.unusedSimpArgs false
namespace Go.Proofs.YtnlnmbcaongehaaGreatDoor
open Go.RowKit
theorem insAt_map {α β : Type} (f : α → β) (xs : List α) (k : Nat) (y : α) : (insAt xs k y).map f = insAt (xs.map f) k (f y) := by simp [insAt, List.map_take, List.map_drop]
theorem dropAt_map {α β : Type} (f : α → β) (xs : List α) (k : Nat) : (dropAt xs k).map f = dropAt (xs.map f) k := by simp [dropAt, List.map_take, List.map_drop]
theorem insAt_perm {α : Type} (xs : List α) (k : Nat) (y : α) : (insAt xs k y).Perm (xs ++ [y]) := by
  have h1 : (insAt xs k y).Perm (xs.take k ++ (xs.drop k ++ [y])) := by
    unfold insAt
    rw [List.append_assoc]
    exact List.Perm.append_left _ List.perm_append_comm
  rwa [← List.append_assoc, List.take_append_drop] at h1
theorem evs_perm {evs : List Ev} {x : Chg} {y : Ev} (hi : (evs.map Ev.c).Pairwise fun x y => x.id ≠ y.id) (hag : x.added = true → x.gone = false) (h0 : apEvErr evs x = 0) (hy : y.c = x.c.newEv) :
    ((apEvs evs x y).map Ev.c).Perm ((evs.map Ev.c).filter (fun z => !(z.id == x.id)) ++ (if x.gone = true then none else some x.c.newEv).toList) := by
  have hz := h0
  unfold apEvErr at hz
  obtain ⟨z1, z2⟩ := allowed_zero hz
  have key : ∀ zs : List Ev, (x.added = true → zs = evs) → (x.added = false → zs = dropAt evs (apEvIdx evs x)) → zs.map Ev.c = (evs.map Ev.c).filter fun z => !(z.id == x.id) := by
    intro zs hA hB
    cases ha : x.added
    · rw [hB ha, dropAt_map]
      have hs := z2 ha
      unfold apEvIdx
      cases hf : first (fun z : Ev => z.id == x.id) evs with
      | none => rw [hf] at hs; cases hs
      | some q =>
        obtain ⟨m, k⟩ := q
        obtain ⟨_, hk, hp⟩ := firstFrom_get _ _ 0 m k hf
        have hid : m.c.id = x.id := by
          have h1 : m.id = x.id := by simpa using hp
          exact h1
        have hk' : (evs.map Ev.c)[k]? = some m.c := by rw [List.getElem?_map, show evs[k]? = some m from by simpa using hk]; rfl
        have := filter_at hi k m.c hk'
        rw [hid] at this
        rw [this]
        rfl
    · rw [hA ha]
      have hn := z1 ha
      rw [isSome_first] at hn
      have hn' := none_of hn
      rw [List.find?_eq_none] at hn'
      refine (List.filter_eq_self.2 fun c hc => ?_).symm
      obtain ⟨z, hz, rfl⟩ := List.mem_map.1 hc
      have := hn' z hz
      simpa [Ev.c] using this
  unfold apEvs changedL
  cases hg : x.gone
  · simp only [Bool.false_eq_true, if_false]
    rw [insAt_map, hy]
    refine (insAt_perm _ _ _).trans ?_
    rw [key _ (fun ha => by rw [if_pos ha]) (fun ha => by rw [if_neg (by rw [ha]; decide)])]
    exact List.Perm.refl _
  · simp only [if_true]
    rw [key _ (fun ha => by rw [if_pos ha]) (fun ha => by rw [if_neg (by rw [ha]; decide)])]
    simp
theorem bad_zero {c : ChgC} (h : badErr c = 0) : 1 ≤ c.sec ∧ c.sec ≤ 4 ∧ (c.added = true → c.gone = false) ∧ (c.sec = 1 → c.added = false ∧ c.gone = false) := by
  unfold badErr at h
  split at h
  · cases h
  · rename_i h1
    split at h
    · cases h
    · rename_i h2
      refine ⟨by omega, by omega, fun ha => ?_, fun hs => ?_⟩
      · cases hg : c.gone
        · rfl
        · rw [ha, hg] at h2
          exact absurd rfl h2
      · cases ha : c.added <;> cases hg : c.gone <;> rw [ha, hg, hs] at h2 <;> first | exact ⟨rfl, rfl⟩ | exact absurd rfl h2
/-- What is behind a change. -/
def StC (d : Doc) (x : Chg) (err : Int) (d' : Doc) : Prop := err = (applyC d.c x.c).1 ∧ d'.c = (applyC d.c x.c).2
theorem applyEv_c {d : Doc} {x : Chg} {g : Nat} {w : World} {e : Ending} {w' : World} (hd : DocOk d.c) (hb : badErr x.c = 0) (hsec : x.sec = 3) (h : EvPost d g x w e w') : StepPost (StC d x) d g w e w' := by
  have hag := (bad_zero hb).2.2.1
  have hs1 : ¬ x.c.sec = 1 := by show ¬ x.sec = 1; omega
  have hs2 : ¬ x.c.sec = 2 := by show ¬ x.sec = 2; omega
  unfold EvPost at h
  split at h
  · rename_i h0
    have ha : applyC d.c x.c = (0, ⟨d.hd, d.regs, setEvs (d.evs.map Ev.c) x.id (if x.gone = true then none else some x.c.newEv), d.cms⟩) := by
      unfold applyC
      rw [if_neg (by simpa using hb), if_neg hs1, if_neg hs2, if_pos (show x.c.sec = 3 from hsec), if_pos (show evChgErr d.c.evs x.c = 0 from (apEv_eq _ _).symm.trans h0)]
      rfl
    obtain ⟨rfl, d', y, h1, h2, h3, h4, h5, h6, h7, h8, h9, h10⟩ := h
    refine ⟨0, d', rfl, ⟨h1, h8, fun b hu => (h9 b hu).1⟩, fun b hu => (h9 b hu).2, h10, ?_⟩
    unfold StC
    rw [ha]
    refine ⟨rfl, ?_⟩
    have hu := evSort_unique (h6.trans (evs_perm hd.ids hag h0 h2)) (by
      rw [List.pairwise_map]
      refine h7.imp fun {a b} h => ?_
      rw [cmpEv_neg] at h
      simp only [decide_eq_false_iff_not] at h
      show decide (a.inn < b.inn ∨ (a.inn = b.inn ∧ a.id ≤ b.id)) = true
      rw [decide_eq_true_eq]
      omega) (setEvs_ids hd.ids x.id _ (fun y hy => by
        split at hy
        · cases hy
        · obtain rfl := Option.some.inj hy
          rfl))
    show Doc.c d' = _
    unfold Doc.c setEvs
    rw [h3, h4, h5, hu]
  · rename_i h0
    have ha : applyC d.c x.c = (apEvErr d.evs x, d.c) := by
      unfold applyC
      rw [if_neg (by simpa using hb), if_neg hs1, if_neg hs2, if_pos (show x.c.sec = 3 from hsec), if_neg (show ¬ evChgErr d.c.evs x.c = 0 from fun h => h0 ((apEv_eq _ _).trans h))]
      rw [apEv_eq]
      rfl
    refine h.step fun d' hd' => ?_
    unfold StC
    rw [ha]
    exact ⟨rfl, hd'⟩
theorem applyC_ok {d : DocC} {c : ChgC} (h : DocOk d) : DocOk (applyC d c).2 := by
  unfold applyC
  split
  · exact h
  · split
    · split
      · exact ⟨h.regs, h.cms, h.ids, h.ord⟩
      · exact h
    · split
      · split
        · refine ⟨?_, h.cms, h.ids, h.ord⟩
          have hv : ∀ y, (if c.gone = true then none else some c.newReg) = some y → y.name = c.name := by
            intro y hy
            split at hy
            · cases hy
            · obtain rfl := Option.some.inj hy
              rfl
          refine pairwise_set (reg_ord c.name) h.regs _ (fun y hy a ha => ?_) (fun y hy b hb he => ?_)
          · rw [hv y hy]
            exact (bl_lt _ _).1 ha
          · rw [hv y hy]
            refine baLt_total (fun h => ?_) (fun h => ?_)
            · rw [regLo, (bl_lt _ _).2 h] at hb
              cases hb
            · rw [regAt, h] at he
              simp at he
        · exact h
      · split
        · split
          · have hv : ∀ y, (if c.gone = true then none else some c.newEv) = some y → y.id = c.id := by
              intro y hy
              split at hy
              · cases hy
              · obtain rfl := Option.some.inj hy
                rfl
            have := evSort_lt (setEvs_ids h.ids c.id _ hv)
            exact ⟨h.regs, h.cms, this.2, this.1⟩
          · exact h
        · split
          · refine ⟨h.regs, ?_, h.ids, h.ord⟩
            have hv : ∀ y, (if c.gone = true then none else some c.newCm) = some y → y.id = c.id := by
              intro y hy
              split at hy
              · cases hy
              · obtain rfl := Option.some.inj hy
                rfl
            refine pairwise_set (cm_ord c.id) h.cms _ (fun y hy a ha => ?_) (fun y hy b hb he => ?_)
            · rw [hv y hy]
              simpa [cmLo] using ha
            · rw [hv y hy]
              simp only [cmLo, cmAt, decide_eq_false_iff_not, beq_eq_false_iff_ne] at hb he
              omega
          · exact h
def EvC.fits (x : EvC) : Prop := i64 x.id ∧ i64 x.inn ∧ i64 x.out ∧ x.region.size ≤ 4000000 ∧ 0 ≤ x.kind ∧ x.kind ≤ 255 ∧ x.speaker.size ≤ 4000000 ∧ (∀ r ∈ x.rows, (∀ y ∈ r, y.fits) ∧ r.length ≤ 4000000 ∧ sumText r ≤ 4000000) ∧ x.rows.length ≤ 4000000
theorem Ev.fits_c (x : Ev) : x.c.fits ↔ x.fits := by
  unfold EvC.fits Ev.fits
  simp only [Ev.c, List.length_map, List.mem_map, forall_exists_index, and_imp, forall_apply_eq_imp_iff₂]
  rfl
def Hd.fits (h : Hd) : Prop := h.title.size ≤ 4000000 ∧ h.lang.size ≤ 4000000 ∧ 0 ≤ h.rate ∧ h.rate ≤ 255 ∧ i64 h.last
/-- A document whose lists are no longer than n. -/
def DocC.fits (n : Nat) (d : DocC) : Prop := d.hd.fits ∧ (∀ r ∈ d.regs, r.fits) ∧ d.regs.length ≤ n ∧ (∀ x ∈ d.evs, x.fits) ∧ d.evs.length ≤ n ∧ (∀ c ∈ d.cms, c.fits) ∧ d.cms.length ≤ n
theorem DocC.fits.doc {d : Doc} {n : Nat} (h : d.c.fits n) (hn : n ≤ 4000000) : d.fits := by
  obtain ⟨⟨h1, h2, h3, h4, h5⟩, h6, h7, h8, h9, h10, h11⟩ := h
  have h9' : d.evs.length ≤ n := by
    have : d.c.evs.length = d.evs.length := List.length_map ..
    omega
  exact ⟨h1, h2, h3, h4, h5, h6, Nat.le_trans h7 hn, fun x hx => (Ev.fits_c x).1 (h8 x.c (List.mem_map.2 ⟨x, hx, rfl⟩)), by omega, h10, Nat.le_trans h11 hn⟩
theorem Doc.fits.c {d : Doc} {n : Nat} (h : d.fits) (h1 : d.regs.length ≤ n) (h2 : d.evs.length ≤ n) (h3 : d.cms.length ≤ n) : d.c.fits n := by
  obtain ⟨q1, q2, q3, q4, q5, q6, q7, q8, q9, q10, q11⟩ := h
  refine ⟨⟨q1, q2, q3, q4, q5⟩, q6, h1, fun x hx => ?_, by show (d.evs.map Ev.c).length ≤ n; rw [List.length_map]; exact h2, q10, h3⟩
  obtain ⟨y, hy, rfl⟩ := List.mem_map.1 hx
  exact (Ev.fits_c y).2 (q8 y hy)
theorem DocC.fits.mono {d : DocC} {n m : Nat} (h : d.fits n) (hn : n ≤ m) : d.fits m := by
  obtain ⟨h1, h2, h3, h4, h5, h6, h7⟩ := h
  exact ⟨h1, h2, by omega, h4, by omega, h6, by omega⟩
/-- The parts of a change that a document takes in. -/
def ChgC.full (c : ChgC) : Prop := 0 ≤ c.sec ∧ i64 c.id ∧ c.name.size ≤ 4000000 ∧ c.nh.fits ∧ c.nr.fits ∧ c.oe.fits ∧ c.ne.fits ∧ c.nc.fits
theorem newReg_fits {c : ChgC} (h : c.full) : c.newReg.fits := by
  obtain ⟨_, _, h1, _, ⟨_, h2⟩, _⟩ := h
  exact ⟨h1, h2⟩
theorem newEv_fits {c : ChgC} (h : c.full) : c.newEv.fits := by
  obtain ⟨_, h1, _, _, _, _, ⟨_, h2⟩, _⟩ := h
  exact ⟨h1, h2⟩
theorem newCm_fits {c : ChgC} (h : c.full) : c.newCm.fits := by
  obtain ⟨_, h1, _, _, _, _, _, ⟨_, h2⟩⟩ := h
  exact ⟨h1, h2⟩
theorem setEvs_le (evs : List EvC) (id : Int) (v : Option EvC) : (setEvs evs id v).length ≤ evs.length + 1 := by
  unfold setEvs evSort
  rw [List.length_mergeSort, List.length_append]
  have := List.length_filter_le (fun x : EvC => !(x.id == id)) evs
  cases v <;> simp <;> omega
theorem setEvs_mem {evs : List EvC} {id : Int} {v : Option EvC} {x : EvC} (h : x ∈ setEvs evs id v) : x ∈ evs ∨ v = some x := by
  have h1 := (evSort_perm _).subset h
  rcases List.mem_append.1 h1 with h1 | h1
  · exact .inl (List.mem_filter.1 h1).1
  · exact .inr (by simpa using h1)
theorem if_some {α : Type} {b : Bool} {y x : α} (h : (if b = true then none else some y) = some x) : x = y := by
  split at h
  · cases h
  · exact (Option.some.inj h).symm
theorem applyC_fits {d : DocC} {c : ChgC} {n : Nat} (h : d.fits n) (hc : c.full) : (applyC d c).2.fits (n + 1) := by
  have h0 := h.mono (Nat.le_succ n)
  obtain ⟨h1, h2, h3, h4, h5, h6, h7⟩ := h
  unfold applyC
  split
  · exact h0
  · split
    · split
      · exact ⟨hc.2.2.2.1, h2, by simp only; omega, h4, by simp only; omega, h6, by simp only; omega⟩
      · exact h0
    · split
      · split
        · refine ⟨h1, fun x hx => ?_, ?_, h4, by simp only; omega, h6, by simp only; omega⟩
          · rcases setAt_mem hx with hx | hx
            · exact h2 x hx
            · rw [if_some hx]
              exact newReg_fits hc
          · have := setAt_le (regLo c.name) (regAt c.name) (if c.gone = true then none else some c.newReg) d.regs
            simp only
            omega
        · exact h0
      · split
        · split
          · refine ⟨h1, h2, by simp only; omega, fun x hx => ?_, ?_, h6, by simp only; omega⟩
            · rcases setEvs_mem hx with hx | hx
              · exact h4 x hx
              · rw [if_some hx]
                exact newEv_fits hc
            · have := setEvs_le d.evs c.id (if c.gone = true then none else some c.newEv)
              simp only
              omega
          · exact h0
        · split
          · refine ⟨h1, h2, by simp only; omega, h4, by simp only; omega, fun x hx => ?_, ?_⟩
            · rcases setAt_mem hx with hx | hx
              · exact h6 x hx
              · rw [if_some hx]
                exact newCm_fits hc
            · have := setAt_le (cmLo c.id) (cmAt c.id) (if c.gone = true then none else some c.newCm) d.cms
              simp only
              omega
          · exact h0
theorem apply_calls (d : Doc) (g : Nat) (x : Chg) (n : Nat) (w : World) (hok : DocOk d.c) (hf : d.c.fits n) (hn : n + 1 ≤ 4000000) (hc : x.c.full) (hd : DocAt d g w) (hl : x.lies w) :
    Calls Tryz.prog 55 #[.pointer (some ⟨g, 0, none⟩), .agg x.enc.toArray] w (StepPost (StC d x) d g w) := by
  have hfd := hf.doc (by omega)
  by_cases hb : badErr x.c = 0
  · obtain ⟨b1, b2, b3, b4⟩ := bad_zero hb
    have hsec : x.sec = 1 ∨ x.sec = 2 ∨ x.sec = 3 ∨ x.sec = 4 := by
      have h1 : 1 ≤ x.sec := b1
      have h2 : x.sec ≤ 4 := b2
      omega
    rcases hsec with hs | hs | hs | hs
    · obtain ⟨ha, hg⟩ := b4 hs
      refine (applyHd_calls d g x w hs ha hg hd).mono fun e w' p => p.step fun d' hd' => ?_
      unfold StC applyC
      rw [if_neg (by simpa using hb), if_pos (show x.c.sec = 1 from hs), hd']
      unfold apHdErr applyHd
      show _ = (if hdEq d.hd x.oh = true then _ else _ : Int × DocC).1 ∧ _ = (if hdEq d.hd x.oh = true then _ else _ : Int × DocC).2
      split
      · exact ⟨rfl, rfl⟩
      · exact ⟨rfl, rfl⟩
    · have := applyReg_c hok hb hs
      refine (applyReg_calls d g x w hs b3 hd hfd.2.2.2.2.2.2.1).mono fun e w' p => p.step fun d' hd' => ?_
      unfold StC
      rw [← this]
      exact ⟨rfl, hd'⟩
    · refine (applyEv_calls d g x w hs b3 hd hl hc.2.1 hfd.2.2.2.2.2.2.2.1 ((Ev.fits_c x.oe).1 hc.2.2.2.2.2.1) ((Ev.fits_c x.ne).1 hc.2.2.2.2.2.2.1) ?_).mono fun e w' p => applyEv_c hok hb hs p
      have h1 := hf.2.2.2.2.1
      have h2 : d.c.evs.length = d.evs.length := List.length_map ..
      omega
    · have := applyCm_c hok hb hs
      refine (applyCm_calls d g x w hs b3 hd hfd.2.2.2.2.2.2.2.2.2.2).mono fun e w' p => p.step fun d' hd' => ?_
      unfold StC
      rw [← this]
      exact ⟨rfl, hd'⟩
  · refine (applyBad_calls d g x w hc.1 hb hd).mono fun e w' p => p.step fun d' hd' => ?_
    unfold StC
    rw [applyC_bad hb]
    exact ⟨rfl, hd'⟩
def patchC : DocC → List ChgC → Int × DocC
  | d, [] => (0, d)
  | d, c :: l => if (applyC d c).1 = 0 then patchC (applyC d c).2 l else ((applyC d c).1, d)
/-- A document of the contents given, without memory. -/
def EvC.rep (x : EvC) : Ev := ⟨x.id, x.inn, x.out, x.region, x.kind, x.speaker, none, 0, x.rows.map fun r => ⟨none, 0, r⟩⟩
def DocC.rep (d : DocC) : Doc := ⟨d.hd.title, d.hd.lang, d.hd.rate, d.hd.drop, d.hd.last, none, 0, d.regs, none, 0, d.evs.map EvC.rep, none, 0, d.cms⟩
theorem EvC.rep_c (x : EvC) : x.rep.c = x := by
  obtain ⟨id, inn, out, region, kind, speaker, rows⟩ := x
  simp [EvC.rep, Ev.c, List.map_map, Function.comp_def]
theorem DocC.rep_c (d : DocC) : d.rep.c = d := by
  obtain ⟨⟨title, lang, rate, drop, last⟩, regs, evs, cms⟩ := d
  have : (evs.map EvC.rep).map Ev.c = evs := by
    rw [List.map_map]
    exact (List.map_congr_left fun x _ => EvC.rep_c x).trans (List.map_id' evs)
  simp only [DocC.rep, Doc.c, Doc.hd, this]
/-- The error of a document of the contents given. -/
def cErr (d : DocC) : Int := docErr d.rep
theorem docErr_c (d : Doc) : docErr d = cErr d.c := docErr_like (DocC.rep_c d.c).symm
def zeroC : DocC := ⟨zeroHd, [], [], []⟩
/-- The error of changes, and the document behind them. -/
def patchErr (d : DocC) (l : List ChgC) : Int := if cErr d = 0 then (if (patchC d l).1 = 0 then cErr (patchC d l).2 else (patchC d l).1) else cErr d
def patchDoc (d : DocC) (l : List ChgC) : DocC := if patchErr d l = 0 then (patchC d l).2 else zeroC
end Go.Proofs.YtnlnmbcaongehaaGreatDoor
namespace Go.Proofs.YtnlnmbcaongehaaGreatDoor
open Go.RowKit
def Uniq {α : Type} (p : α → Bool) (l : List α) : Prop := ∀ x ∈ l, ∀ y ∈ l, p x = true → p y = true → x = y
theorem find_iff {α : Type} {p : α → Bool} : ∀ {l : List α}, Uniq p l → ∀ x, l.find? p = some x ↔ x ∈ l ∧ p x = true
  | [], _, x => by simp
  | y :: l, h, x => by
    rw [List.find?_cons]
    cases hy : p y
    · rw [find_iff (l := l) (fun a ha b hb => h a (List.mem_cons_of_mem _ ha) b (List.mem_cons_of_mem _ hb)) x]
      constructor
      · rintro ⟨h1, h2⟩
        exact ⟨List.mem_cons_of_mem _ h1, h2⟩
      · rintro ⟨h1, h2⟩
        rcases List.mem_cons.1 h1 with rfl | h1
        · rw [hy] at h2; cases h2
        · exact ⟨h1, h2⟩
    · constructor
      · intro e
        obtain rfl := Option.some.inj e
        exact ⟨List.mem_cons_self, hy⟩
      · rintro ⟨h1, h2⟩
        exact congrArg some (h y List.mem_cons_self x h1 hy h2)
theorem find_congr {α : Type} {p : α → Bool} {l l' : List α} (u : Uniq p l) (u' : Uniq p l') (h : ∀ x, p x = true → (x ∈ l ↔ x ∈ l')) : l.find? p = l'.find? p := by
  refine Option.ext fun x => ?_
  rw [find_iff u, find_iff u']
  constructor
  · rintro ⟨h1, h2⟩; exact ⟨(h x h2).1 h1, h2⟩
  · rintro ⟨h1, h2⟩; exact ⟨(h x h2).2 h1, h2⟩
theorem mem_congr {α : Type} {P : α → α → Bool} {l l' : List α} (hr : ∀ x, P x x = true) (u : ∀ k, Uniq (P k) l) (u' : ∀ k, Uniq (P k) l') (h : ∀ k, l.find? (P k) = l'.find? (P k)) (x : α) : x ∈ l ↔ x ∈ l' := by
  have := h x
  constructor
  · intro hx
    have e := (find_iff (u x) x).2 ⟨hx, hr x⟩
    rw [this] at e
    exact ((find_iff (u' x) x).1 e).1
  · intro hx
    have e := (find_iff (u' x) x).2 ⟨hx, hr x⟩
    rw [← this] at e
    exact ((find_iff (u x) x).1 e).1
theorem mem_setAt {α : Type} {lo eq : α → Bool} {v : Option α} {xs : List α} {x : α} (hle : ∀ x, lo x = true → eq x = false) (hv : ∀ y, v = some y → eq y = true) : x ∈ setAt lo eq v xs ↔ (eq x = true ∧ v = some x) ∨ (eq x = false ∧ x ∈ xs) := by
  unfold setAt
  rw [List.mem_append, List.mem_append, List.mem_filter, List.mem_filter, Option.mem_toList]
  cases he : eq x
  · constructor
    · rintro ((⟨h1, _⟩ | h) | ⟨h1, _⟩)
      · exact .inr ⟨rfl, h1⟩
      · have := hv x h; rw [he] at this; cases this
      · exact .inr ⟨rfl, h1⟩
    · rintro (⟨h, _⟩ | ⟨_, h⟩)
      · cases h
      · cases hl : lo x
        · exact .inr ⟨h, rfl⟩
        · exact .inl (.inl ⟨h, rfl⟩)
  · constructor
    · rintro ((⟨_, h1⟩ | h) | ⟨_, h1⟩)
      · rw [hle x h1] at he; cases he
      · exact .inl ⟨rfl, h⟩
      · simp at h1
    · rintro (⟨_, h⟩ | ⟨h, _⟩)
      · exact .inl (.inr h)
      · cases h
theorem find_setAt_eq {α : Type} {lo eq : α → Bool} {v : Option α} {xs : List α} (hle : ∀ x, lo x = true → eq x = false) (hv : ∀ y, v = some y → eq y = true) (hu : Uniq eq (setAt lo eq v xs)) : (setAt lo eq v xs).find? eq = v := by
  refine Option.ext fun x => ?_
  rw [find_iff hu, mem_setAt hle hv]
  constructor
  · rintro ⟨⟨_, h⟩ | ⟨h, _⟩, h2⟩
    · exact h
    · rw [h] at h2; cases h2
  · intro h
    exact ⟨.inl ⟨hv x h, h⟩, hv x h⟩
theorem find_setAt_ne {α : Type} {lo eq eq' : α → Bool} {v : Option α} {xs : List α} (hle : ∀ x, lo x = true → eq x = false) (hv : ∀ y, v = some y → eq y = true) (hne : ∀ x, eq' x = true → eq x = false) (hu : Uniq eq' (setAt lo eq v xs)) (hu' : Uniq eq' xs) : (setAt lo eq v xs).find? eq' = xs.find? eq' := by
  refine find_congr hu hu' fun x hx => ?_
  rw [mem_setAt hle hv, hne x hx]
  simp
theorem uniq_reg {l : List Reg} (h : l.Pairwise fun x y => baLt x.name y.name) (k : ByteArray) : Uniq (regAt k) l := by
  intro x hx y hy hpx hpy
  have ex := ba_ext (a := x.name) (b := k) (by simpa [regAt] using hpx)
  have ey := ba_ext (a := y.name) (b := k) (by simpa [regAt] using hpy)
  obtain ⟨i, hi⟩ := List.mem_iff_getElem?.1 hx
  obtain ⟨j, hj⟩ := List.mem_iff_getElem?.1 hy
  obtain ⟨hi', ei⟩ := List.getElem?_eq_some_iff.1 hi
  obtain ⟨hj', ej⟩ := List.getElem?_eq_some_iff.1 hj
  rcases Nat.lt_trichotomy i j with hij | rfl | hij
  · have := List.pairwise_iff_getElem.1 h i j hi' hj' hij
    rw [ei, ej, ex, ey] at this
    exact absurd this (baLt_irrefl _)
  · rw [hi] at hj
    exact Option.some.inj hj
  · have := List.pairwise_iff_getElem.1 h j i hj' hi' hij
    rw [ei, ej, ex, ey] at this
    exact absurd this (baLt_irrefl _)
theorem uniq_cm {l : List Cm} (h : l.Pairwise fun x y => x.id < y.id) (k : Int) : Uniq (cmAt k) l := by
  intro x hx y hy hpx hpy
  have ex : x.id = k := by simpa [cmAt] using hpx
  have ey : y.id = k := by simpa [cmAt] using hpy
  obtain ⟨i, hi⟩ := List.mem_iff_getElem?.1 hx
  obtain ⟨j, hj⟩ := List.mem_iff_getElem?.1 hy
  obtain ⟨hi', ei⟩ := List.getElem?_eq_some_iff.1 hi
  obtain ⟨hj', ej⟩ := List.getElem?_eq_some_iff.1 hj
  rcases Nat.lt_trichotomy i j with hij | rfl | hij
  · have := List.pairwise_iff_getElem.1 h i j hi' hj' hij
    rw [ei, ej] at this
    omega
  · rw [hi] at hj
    exact Option.some.inj hj
  · have := List.pairwise_iff_getElem.1 h j i hj' hi' hij
    rw [ei, ej] at this
    omega
theorem uniq_ev {l : List EvC} (h : l.Pairwise fun x y => x.id ≠ y.id) (k : Int) : Uniq (evAt k) l := by
  intro x hx y hy hpx hpy
  have ex : x.id = k := by simpa [evAt] using hpx
  have ey : y.id = k := by simpa [evAt] using hpy
  exact ids_inj h hx hy (ex.trans ey.symm)
theorem docC_ext {d b : DocC} (hd : DocOk d) (hb : DocOk b) (h0 : d.hd = b.hd) (h1 : ∀ k, d.regs.find? (regAt k) = b.regs.find? (regAt k)) (h2 : ∀ k, d.evs.find? (evAt k) = b.evs.find? (evAt k)) (h3 : ∀ k, d.cms.find? (cmAt k) = b.cms.find? (cmAt k)) : d = b := by
  obtain ⟨hd1, regs, evs, cms⟩ := d
  obtain ⟨hd2, regs', evs', cms'⟩ := b
  simp only at h0 h1 h2 h3
  have e1 : regs = regs' := asc_ext (fun x y : Reg => baLt x.name y.name) (fun a h => baLt_irrefl _ h) (fun a b h h' => baLt_irrefl _ (baLt_trans h h')) _ _ hd.regs hb.regs fun x => mem_congr (P := fun x => regAt x.name) (fun x => by simp [regAt]) (fun k => uniq_reg hd.regs _) (fun k => uniq_reg hb.regs _) (fun k => h1 _) x
  have e2 : evs = evs' := asc_ext EvC.lt (fun a h => by unfold EvC.lt at h; omega) (fun a b h h' => by unfold EvC.lt at h h'; omega) _ _ hd.ord hb.ord fun x => mem_congr (P := fun x => evAt x.id) (fun x => by simp [evAt]) (fun k => uniq_ev hd.ids _) (fun k => uniq_ev hb.ids _) (fun k => h2 _) x
  have e3 : cms = cms' := asc_ext (fun x y : Cm => x.id < y.id) (fun a h => by omega) (fun a b h h' => by omega) _ _ hd.cms hb.cms fun x => mem_congr (P := fun x => cmAt x.id) (fun x => by simp [cmAt]) (fun k => uniq_cm hd.cms _) (fun k => uniq_cm hb.cms _) (fun k => h3 _) x
  rw [h0, e1, e2, e3]
def Side {α : Type} (x y : Option α) (z : α) (ad gn : Bool) (o n : α) : Prop := ad = (!x.isSome) ∧ gn = (!y.isSome) ∧ o = x.getD z ∧ n = y.getD z ∧ (x.isSome = true ∨ y.isSome = true)
theorem Side.inv {α : Type} {x y : Option α} {z : α} {ad gn : Bool} {o n : α} (h : Side x y z ad gn o n) : Side y x z gn ad n o := ⟨h.2.1, h.1, h.2.2.2.1, h.2.2.1, h.2.2.2.2.symm⟩
def LeadAt (a b : DocC) (c : ChgC) : Prop :=
  (c.sec = 1 ∧ c.added = false ∧ c.gone = false ∧ c.oh = a.hd ∧ c.nh = b.hd) ∨
  (c.sec = 2 ∧ Side (a.regs.find? (regAt c.name)) (b.regs.find? (regAt c.name)) zeroReg c.added c.gone c.rg c.nr) ∨
  (c.sec = 3 ∧ Side (a.evs.find? (evAt c.id)) (b.evs.find? (evAt c.id)) zeroEvC c.added c.gone c.oe c.ne) ∨
  (c.sec = 4 ∧ Side (a.cms.find? (cmAt c.id)) (b.cms.find? (cmAt c.id)) zeroCm c.added c.gone c.oc c.nc)
/-- The inverse of a change. -/
def invC (c : ChgC) : ChgC := ⟨c.sec, c.id, c.name, c.gone, c.added, c.nh, c.oh, c.nr, c.rg, c.ne, c.oe, c.nc, c.oc⟩
def invL (l : List ChgC) : List ChgC := (l.map invC).reverse
theorem LeadAt.inv {a b : DocC} {c : ChgC} (h : LeadAt a b c) : LeadAt b a (invC c) := by
  rcases h with ⟨h1, h2, h3, h4, h5⟩ | ⟨h1, h2⟩ | ⟨h1, h2⟩ | ⟨h1, h2⟩
  · exact .inl ⟨h1, h3, h2, h5, h4⟩
  · exact .inr (.inl ⟨h1, h2.inv⟩)
  · exact .inr (.inr (.inl ⟨h1, h2.inv⟩))
  · exact .inr (.inr (.inr ⟨h1, h2.inv⟩))
/-- Two changes of one place. -/
def SameKey (c c' : ChgC) : Prop := c.sec = c'.sec ∧ (c.sec = 1 ∨ (c.sec = 2 ∧ c.name = c'.name) ∨ (c.sec = 3 ∧ c.id = c'.id) ∨ (c.sec = 4 ∧ c.id = c'.id))
def Pick {α : Type} (P : Prop) (x a b : α) : Prop := (P → x = a) ∧ (¬ P → x = b)
theorem Pick.iff {α : Type} {P Q : Prop} {x a b : α} (h : Pick P x a b) (e : P ↔ Q) : Pick Q x a b := ⟨fun q => h.1 (e.2 q), fun q => h.2 fun p => q (e.1 p)⟩
/-- A document between two others: as the first one at the places of the changes given, as the second one elsewhere. -/
structure Mid (a b d : DocC) (L : List ChgC) : Prop where
  ok : DocOk d
  hd : Pick (∃ c ∈ L, c.sec = 1) d.hd a.hd b.hd
  regs : ∀ k, Pick (∃ c ∈ L, c.sec = 2 ∧ c.name = k) (d.regs.find? (regAt k)) (a.regs.find? (regAt k)) (b.regs.find? (regAt k))
  evs : ∀ k, Pick (∃ c ∈ L, c.sec = 3 ∧ c.id = k) (d.evs.find? (evAt k)) (a.evs.find? (evAt k)) (b.evs.find? (evAt k))
  cms : ∀ k, Pick (∃ c ∈ L, c.sec = 4 ∧ c.id = k) (d.cms.find? (cmAt k)) (a.cms.find? (cmAt k)) (b.cms.find? (cmAt k))
theorem ex_skip {P : ChgC → Prop} {c : ChgC} {L : List ChgC} (h : ¬ P c) : (∃ x ∈ c :: L, P x) ↔ ∃ x ∈ L, P x := by
  constructor
  · rintro ⟨x, hx, hp⟩
    rcases List.mem_cons.1 hx with rfl | hx
    · exact absurd hp h
    · exact ⟨x, hx, hp⟩
  · rintro ⟨x, hx, hp⟩
    exact ⟨x, List.mem_cons_of_mem _ hx, hp⟩
theorem Pick.skip {α : Type} {P : ChgC → Prop} {c : ChgC} {L : List ChgC} {x a b : α} (h : Pick (∃ z ∈ c :: L, P z) x a b) (hn : ¬ P c) : Pick (∃ z ∈ L, P z) x a b := h.iff (ex_skip hn)
theorem Pick.here {α : Type} {P : ChgC → Prop} {c : ChgC} {L : List ChgC} {x a b : α} (h : Pick (∃ z ∈ c :: L, P z) x a b) (hp : P c) : x = a := h.1 ⟨c, List.mem_cons_self, hp⟩
theorem Pick.done {α : Type} {P : ChgC → Prop} {L : List ChgC} {x a b : α} (hn : ∀ z ∈ L, ¬ P z) (h : x = b) : Pick (∃ z ∈ L, P z) x a b := ⟨fun ⟨z, hz, hp⟩ => absurd hp (hn z hz), fun _ => h⟩
theorem allowed_lead {α : Type} {x y : Option α} {z : α} {ad gn : Bool} {o n : α} (h : Side x y z ad gn o n) (eq : α → α → Bool) (hr : ∀ x, eq x x = true) : allowedErr ad x.isSome (eq (x.getD z) o) = 0 ∧ (ad && gn) = false := by
  obtain ⟨rfl, rfl, rfl, _, h⟩ := h
  unfold allowedErr
  rw [hr]
  cases x <;> cases y <;> simp at h ⊢
theorem bad_lead {a b : DocC} {c : ChgC} (h : LeadAt a b c) : badErr c = 0 := by
  unfold badErr
  rcases h with ⟨h1, h2, h3, _⟩ | ⟨h1, h2⟩ | ⟨h1, h2⟩ | ⟨h1, h2⟩
  · rw [h1, h2, h3]; rfl
  · have := (allowed_lead h2 (fun _ _ => true) fun _ => rfl).2
    rw [h1, this]; rfl
  · have := (allowed_lead h2 (fun _ _ => true) fun _ => rfl).2
    rw [h1, this]; rfl
  · have := (allowed_lead h2 (fun _ _ => true) fun _ => rfl).2
    rw [h1, this]; rfl
theorem regAt_name {k : ByteArray} {x : Reg} (h : regAt k x = true) : x.name = k := ba_ext (by simpa [regAt] using h)
theorem evCEq_refl (x : EvC) : evCEq x x = true := by
  simp [evCEq]
  exact allEq_refl _ (fun r => allEq_refl runEq runEq_refl r) _
theorem Side.val {α : Type} {x y : Option α} {z : α} {ad gn : Bool} {o n : α} {f : α → α} (h : Side x y z ad gn o n) (hf : ∀ v, y = some v → f v = v) : (if gn = true then none else some (f n)) = y := by
  obtain ⟨_, rfl, _, rfl, _⟩ := h
  cases y with
  | none => rfl
  | some v => simp [hf v rfl]
theorem mem_setEvs {evs : List EvC} {id : Int} {v : Option EvC} {x : EvC} : x ∈ setEvs evs id v ↔ (x ∈ evs ∧ ¬ x.id = id) ∨ v = some x := by
  unfold setEvs
  rw [(evSort_perm _).mem_iff, List.mem_append, List.mem_filter, Option.mem_toList]
  simp
theorem lead_step {a b d : DocC} {c : ChgC} {L : List ChgC} (hc : LeadAt a b c) (hp : ∀ c' ∈ L, ¬ SameKey c c') (hm : Mid a b d (c :: L)) : (applyC d c).1 = 0 ∧ Mid a b (applyC d c).2 L := by
  have hok : DocOk (applyC d c).2 := applyC_ok hm.ok
  have hbad := bad_lead hc
  have hbad' : ¬ badErr c ≠ 0 := by simp [hbad]
  unfold applyC at hok ⊢
  rw [if_neg hbad'] at hok ⊢
  rcases hc with ⟨h1, h2, h3, h4, h5⟩ | ⟨h1, h2⟩ | ⟨h1, h2⟩ | ⟨h1, h2⟩
  · rw [if_pos h1] at hok ⊢
    have hh := hm.hd.here h1
    rw [if_pos (show hdEq d.hd c.oh = true by rw [hh, h4]; exact hdEq_refl _)] at hok ⊢
    refine ⟨rfl, hok, Pick.done (fun z hz e => hp z hz ⟨h1.trans e.symm, .inl h1⟩) h5, fun k => (hm.regs k).skip fun e => ?_, fun k => (hm.evs k).skip fun e => ?_, fun k => (hm.cms k).skip fun e => ?_⟩
    all_goals (have := e.1; omega)
  · have n1 : ¬ c.sec = 1 := by omega
    rw [if_neg n1, if_pos h1] at hok ⊢
    have hh := (hm.regs c.name).here ⟨h1, rfl⟩
    have he : regChgErr d.regs c = 0 := by
      unfold regChgErr
      rw [hh]
      exact (allowed_lead h2 regEq regEq_refl).1
    rw [if_pos he] at hok ⊢
    have hv : (if c.gone = true then none else some c.newReg) = b.regs.find? (regAt c.name) :=
      h2.val (f := fun r => ⟨c.name, r.top, r.height, r.left, r.width, r.align, r.bottom⟩) fun v e => by
        have := regAt_name (List.find?_some e)
        obtain ⟨nm, t, h, l, w, al, bo⟩ := v
        simp only at this
        rw [← this]
    rw [hv] at hok ⊢
    have hve : ∀ y, b.regs.find? (regAt c.name) = some y → regAt c.name y = true := fun y e => List.find?_some e
    refine ⟨rfl, hok, hm.hd.skip fun e => n1 e, fun k => ?_, fun k => (hm.evs k).skip fun e => by have := e.1; omega, fun k => (hm.cms k).skip fun e => by have := e.1; omega⟩
    by_cases hk : c.name = k
    · subst hk
      exact Pick.done (fun z hz e => hp z hz ⟨h1.trans e.1.symm, .inr (.inl ⟨h1, e.2.symm⟩)⟩) (find_setAt_eq (reg_low _) hve (uniq_reg hok.regs _))
    · have e2 : (setAt (regLo c.name) (regAt c.name) (b.regs.find? (regAt c.name)) d.regs).find? (regAt k) = d.regs.find? (regAt k) :=
        find_setAt_ne (reg_low _) hve (fun x hx => by
          cases h : regAt c.name x
          · rfl
          · exact absurd ((regAt_name h).symm.trans (regAt_name hx)) hk) (uniq_reg hok.regs _) (uniq_reg hm.ok.regs _)
      show Pick _ ((setAt (regLo c.name) (regAt c.name) (b.regs.find? (regAt c.name)) d.regs).find? (regAt k)) _ _
      rw [e2]
      exact (hm.regs k).skip fun e => hk e.2
  · have n1 : ¬ c.sec = 1 := by omega
    have n2 : ¬ c.sec = 2 := by omega
    rw [if_neg n1, if_neg n2, if_pos h1] at hok ⊢
    have hh := (hm.evs c.id).here ⟨h1, rfl⟩
    have he : evChgErr d.evs c = 0 := by
      unfold evChgErr
      rw [hh]
      exact (allowed_lead h2 evCEq evCEq_refl).1
    rw [if_pos he] at hok ⊢
    have hv : (if c.gone = true then none else some c.newEv) = b.evs.find? (evAt c.id) :=
      h2.val (f := fun r => ⟨c.id, r.inn, r.out, r.region, r.kind, r.speaker, r.rows⟩) fun v e => by
        have : v.id = c.id := by simpa [evAt] using List.find?_some e
        obtain ⟨i, t, h, l, w, al, bo⟩ := v
        simp only at this
        rw [← this]
    rw [hv] at hok ⊢
    have hve : ∀ y, b.evs.find? (evAt c.id) = some y → y.id = c.id := fun y e => by simpa [evAt] using List.find?_some e
    refine ⟨rfl, hok, hm.hd.skip fun e => n1 e, fun k => (hm.regs k).skip fun e => by have := e.1; omega, fun k => ?_, fun k => (hm.cms k).skip fun e => by have := e.1; omega⟩
    by_cases hk : c.id = k
    · subst hk
      refine Pick.done (fun z hz e => hp z hz ⟨h1.trans e.1.symm, .inr (.inr (.inl ⟨h1, e.2.symm⟩))⟩) (Option.ext fun x => ?_)
      rw [find_iff (uniq_ev hok.ids _)]
      constructor
      · rintro ⟨hx, hpx⟩
        rcases mem_setEvs.1 hx with ⟨_, h⟩ | h
        · exact absurd (by simpa [evAt] using hpx) h
        · exact h
      · intro h
        exact ⟨mem_setEvs.2 (.inr h), by simpa [evAt] using hve x h⟩
    · have e2 : (setEvs d.evs c.id (b.evs.find? (evAt c.id))).find? (evAt k) = d.evs.find? (evAt k) := by
        refine find_congr (uniq_ev hok.ids _) (uniq_ev hm.ok.ids _) fun x hx => ?_
        have hxk : x.id = k := by simpa [evAt] using hx
        rw [mem_setEvs]
        constructor
        · rintro (⟨h, _⟩ | h)
          · exact h
          · exact absurd ((hve x h).symm.trans hxk) hk
        · intro h
          exact .inl ⟨h, fun e => hk (e.symm.trans hxk)⟩
      show Pick _ ((setEvs d.evs c.id (b.evs.find? (evAt c.id))).find? (evAt k)) _ _
      rw [e2]
      exact (hm.evs k).skip fun e => hk e.2
  · have n1 : ¬ c.sec = 1 := by omega
    have n2 : ¬ c.sec = 2 := by omega
    have n3 : ¬ c.sec = 3 := by omega
    rw [if_neg n1, if_neg n2, if_neg n3] at hok ⊢
    have hh := (hm.cms c.id).here ⟨h1, rfl⟩
    have he : cmChgErr d.cms c = 0 := by
      unfold cmChgErr
      rw [hh]
      exact (allowed_lead h2 cmEq cmEq_refl).1
    rw [if_pos he] at hok ⊢
    have hv : (if c.gone = true then none else some c.newCm) = b.cms.find? (cmAt c.id) :=
      h2.val (f := fun r => ⟨c.id, r.ev, r.frm, r.til, r.author, r.text, r.done, r.lost⟩) fun v e => by
        have : v.id = c.id := by simpa [cmAt] using List.find?_some e
        obtain ⟨i, t, h, l, w, al, bo, lo⟩ := v
        simp only at this
        rw [← this]
    rw [hv] at hok ⊢
    have hve : ∀ y, b.cms.find? (cmAt c.id) = some y → cmAt c.id y = true := fun y e => List.find?_some e
    refine ⟨rfl, hok, hm.hd.skip fun e => n1 e, fun k => (hm.regs k).skip fun e => by have := e.1; omega, fun k => (hm.evs k).skip fun e => by have := e.1; omega, fun k => ?_⟩
    by_cases hk : c.id = k
    · subst hk
      exact Pick.done (fun z hz e => hp z hz ⟨h1.trans e.1.symm, .inr (.inr (.inr ⟨h1, e.2.symm⟩))⟩) (find_setAt_eq (cm_low _) hve (uniq_cm hok.cms _))
    · have e2 : (setAt (cmLo c.id) (cmAt c.id) (b.cms.find? (cmAt c.id)) d.cms).find? (cmAt k) = d.cms.find? (cmAt k) :=
        find_setAt_ne (cm_low _) hve (fun x hx => by
          cases h : cmAt c.id x
          · rfl
          · have e1 : x.id = c.id := by simpa [cmAt] using h
            have e2 : x.id = k := by simpa [cmAt] using hx
            exact absurd (e1.symm.trans e2) hk) (uniq_cm hok.cms _) (uniq_cm hm.ok.cms _)
      show Pick _ ((setAt (cmLo c.id) (cmAt c.id) (b.cms.find? (cmAt c.id)) d.cms).find? (cmAt k)) _ _
      rw [e2]
      exact (hm.cms k).skip fun e => hk e.2
theorem no_ex {P : ChgC → Prop} : ¬ ∃ c ∈ ([] : List ChgC), P c := fun ⟨c, hc, _⟩ => by cases hc
/-- Changes that lead from a document to another one, each at a place of its own, lead there. -/
theorem lead {a b : DocC} (hb : DocOk b) : ∀ (L : List ChgC) (d : DocC), (∀ c ∈ L, LeadAt a b c) → L.Pairwise (fun c c' => ¬ SameKey c c') → Mid a b d L → patchC d L = (0, b)
  | [], d, _, _, hm => by
    rw [patchC, docC_ext hm.ok hb (hm.hd.2 no_ex) (fun k => (hm.regs k).2 no_ex) (fun k => (hm.evs k).2 no_ex) (fun k => (hm.cms k).2 no_ex)]
  | c :: L, d, hL, hp, hm => by
    rw [List.pairwise_cons] at hp
    obtain ⟨h0, h1⟩ := lead_step (hL c List.mem_cons_self) hp.1 hm
    rw [patchC, if_pos h0]
    exact lead hb L _ (fun x hx => hL x (List.mem_cons_of_mem _ hx)) hp.2 h1
end Go.Proofs.YtnlnmbcaongehaaGreatDoor
namespace Go.Proofs.YtnlnmbcaongehaaGreatDoor
open Go.RowKit
theorem side_of {α : Type} {x y : Option α} {z : α} {eq : α → α → Bool} (hr : ∀ v, eq v v = true) (h : (x.isSome != y.isSome || !eq (x.getD z) (y.getD z)) = true) : Side x y z (!x.isSome) (!y.isSome) (x.getD z) (y.getD z) ∧ x ≠ y := by
  refine ⟨⟨rfl, rfl, rfl, rfl, ?_⟩, ?_⟩
  · cases x <;> cases y <;> simp [hr] at h ⊢
  · rintro rfl
    simp [hr] at h
theorem same_of {α : Type} {x y : Option α} {z : α} {eq : α → α → Bool} (he : ∀ v u, eq v u = true → v = u) (h : ¬ (x.isSome != y.isSome || !eq (x.getD z) (y.getD z)) = true) : x = y := by
  cases x <;> cases y <;> simp at h ⊢
  exact he _ _ h
theorem evFind_c (xs : List Ev) (k : Int) : ((xs.map Ev.c).find? (evAt k)).isSome = (xs.find? (evIs k)).isSome ∧ ((xs.map Ev.c).find? (evAt k)).getD zeroEvC = ((xs.find? (evIs k)).getD zeroEv).c := by
  rw [find_c]
  show (Option.map Ev.c (xs.find? (evIs k))).isSome = _ ∧ (Option.map Ev.c (xs.find? (evIs k))).getD zeroEvC = _
  cases xs.find? (evIs k) <;> exact ⟨rfl, rfl⟩
theorem evCEq_eq {x y : EvC} (h : evCEq x y = true) : x = y := by
  have e : ∀ z : EvC, ∃ v : Ev, v.c = z := fun z => ⟨⟨z.id, z.inn, z.out, z.region, z.kind, z.speaker, none, 0, z.rows.map fun r => ⟨none, 0, r⟩⟩, by
    obtain ⟨i, n, o, r, k, s, rows⟩ := z
    simp only [Ev.c, List.map_map, EvC.mk.injEq, true_and]
    exact (List.map_congr_left fun c _ => rfl).trans (List.map_id _)⟩
  obtain ⟨v, rfl⟩ := e x
  obtain ⟨u, rfl⟩ := e y
  rw [← evEq_ev] at h
  exact ev_eq h
theorem chgEv_c (xs ys : List Ev) (k : Int) : chgEv xs ys k =
    if (((xs.map Ev.c).find? (evAt k)).isSome != ((ys.map Ev.c).find? (evAt k)).isSome || !evCEq (((xs.map Ev.c).find? (evAt k)).getD zeroEvC) (((ys.map Ev.c).find? (evAt k)).getD zeroEvC)) = true then
    [⟨3, k, ⟨#[]⟩, !((xs.map Ev.c).find? (evAt k)).isSome, !((ys.map Ev.c).find? (evAt k)).isSome, zeroHd, zeroHd, zeroReg, zeroReg, ((xs.map Ev.c).find? (evAt k)).getD zeroEvC, ((ys.map Ev.c).find? (evAt k)).getD zeroEvC, zeroCm, zeroCm⟩] else [] := by
  rw [(evFind_c xs k).1, (evFind_c xs k).2, (evFind_c ys k).1, (evFind_c ys k).2, ← evEq_ev]
  rfl
/-- The places of the changes, in order. -/
theorem chgReg_at {xs ys : List Reg} {k : ByteArray} {c : ChgC} (h : c ∈ chgReg xs ys k) : c.sec = 2 ∧ c.name = k ∧ Side (xs.find? (regAt k)) (ys.find? (regAt k)) zeroReg c.added c.gone c.rg c.nr ∧ xs.find? (regAt k) ≠ ys.find? (regAt k) := by
  unfold chgReg at h
  split at h
  · rename_i hc
    obtain rfl := List.mem_singleton.1 h
    obtain ⟨h1, h2⟩ := side_of regEq_refl hc
    exact ⟨rfl, rfl, h1, h2⟩
  · simp at h
theorem chgEv_at {xs ys : List Ev} {k : Int} {c : ChgC} (h : c ∈ chgEv xs ys k) : c.sec = 3 ∧ c.id = k ∧ Side ((xs.map Ev.c).find? (evAt k)) ((ys.map Ev.c).find? (evAt k)) zeroEvC c.added c.gone c.oe c.ne ∧ (xs.map Ev.c).find? (evAt k) ≠ (ys.map Ev.c).find? (evAt k) := by
  rw [chgEv_c] at h
  split at h
  · rename_i hc
    obtain rfl := List.mem_singleton.1 h
    obtain ⟨h1, h2⟩ := side_of evCEq_refl hc
    exact ⟨rfl, rfl, h1, h2⟩
  · simp at h
theorem chgCm_at {xs ys : List Cm} {k : Int} {c : ChgC} (h : c ∈ chgCm xs ys k) : c.sec = 4 ∧ c.id = k ∧ Side (xs.find? (cmAt k)) (ys.find? (cmAt k)) zeroCm c.added c.gone c.oc c.nc ∧ xs.find? (cmAt k) ≠ ys.find? (cmAt k) := by
  unfold chgCm at h
  split at h
  · rename_i hc
    obtain rfl := List.mem_singleton.1 h
    obtain ⟨h1, h2⟩ := side_of cmEq_refl hc
    exact ⟨rfl, rfl, h1, h2⟩
  · simp at h
theorem chgHead_at {a b : Hd} {c : ChgC} (h : c ∈ chgHead a b) : c.sec = 1 ∧ c.added = false ∧ c.gone = false ∧ c.oh = a ∧ c.nh = b ∧ a ≠ b := by
  unfold chgHead at h
  split at h
  · simp at h
  · rename_i hc
    obtain rfl := List.mem_singleton.1 h
    exact ⟨rfl, rfl, rfl, rfl, rfl, fun e => hc (e ▸ hdEq_refl _)⟩
theorem chgs_mem {a b : Doc} {c : ChgC} (h : c ∈ chgs a b) : c ∈ chgHead a.hd b.hd ∨ (∃ k ∈ regKeys a b, c ∈ chgReg a.regs b.regs k) ∨ (∃ k ∈ evKeys a b, c ∈ chgEv a.evs b.evs k) ∨ ∃ k ∈ cmKeys a b, c ∈ chgCm a.cms b.cms k := by
  unfold chgs chgsOf at h
  rcases List.mem_append.1 h with h | h
  · exact .inl h
  · rcases List.mem_append.1 h with h | h
    · exact .inr (.inl (List.mem_flatMap.1 h))
    · rcases List.mem_append.1 h with h | h
      · exact .inr (.inr (.inl (List.mem_flatMap.1 h)))
      · exact .inr (.inr (.inr (List.mem_flatMap.1 h)))
theorem mem_chgs {a b : Doc} {c : ChgC} (h : c ∈ chgHead a.hd b.hd ∨ (∃ k ∈ regKeys a b, c ∈ chgReg a.regs b.regs k) ∨ (∃ k ∈ evKeys a b, c ∈ chgEv a.evs b.evs k) ∨ ∃ k ∈ cmKeys a b, c ∈ chgCm a.cms b.cms k) : c ∈ chgs a b := by
  unfold chgs chgsOf
  rcases h with h | h | h | h
  · exact List.mem_append_left _ h
  · exact List.mem_append_right _ (List.mem_append_left _ (List.mem_flatMap.2 h))
  · exact List.mem_append_right _ (List.mem_append_right _ (List.mem_append_left _ (List.mem_flatMap.2 h)))
  · exact List.mem_append_right _ (List.mem_append_right _ (List.mem_append_right _ (List.mem_flatMap.2 h)))
theorem chgs_lead {a b : Doc} {c : ChgC} (h : c ∈ chgs a b) : LeadAt a.c b.c c ∧ a.c ≠ b.c := by
  rcases chgs_mem h with h | ⟨k, _, h⟩ | ⟨k, _, h⟩ | ⟨k, _, h⟩
  · obtain ⟨h1, h2, h3, h4, h5, h6⟩ := chgHead_at h
    exact ⟨.inl ⟨h1, h2, h3, h4, h5⟩, fun e => h6 (congrArg DocC.hd e)⟩
  · obtain ⟨h1, rfl, h3, h4⟩ := chgReg_at h
    exact ⟨.inr (.inl ⟨h1, h3⟩), fun e => h4 (congrArg (fun l : List Reg => l.find? (regAt c.name)) (congrArg DocC.regs e))⟩
  · obtain ⟨h1, rfl, h3, h4⟩ := chgEv_at h
    exact ⟨.inr (.inr (.inl ⟨h1, h3⟩)), fun e => h4 (congrArg (fun l : List EvC => l.find? (evAt c.id)) (congrArg DocC.evs e))⟩
  · obtain ⟨h1, rfl, h3, h4⟩ := chgCm_at h
    exact ⟨.inr (.inr (.inr ⟨h1, h3⟩)), fun e => h4 (congrArg (fun l : List Cm => l.find? (cmAt c.id)) (congrArg DocC.cms e))⟩
theorem short_pair {α : Type} {R : α → α → Prop} : ∀ {l : List α}, l.length ≤ 1 → l.Pairwise R
  | [], _ => List.Pairwise.nil
  | [x], _ => List.pairwise_singleton _ _
  | x :: y :: l, h => by simp at h
theorem regKeys_ne (a b : Doc) : (regKeys a b).Pairwise (fun k k' => k ≠ k') := by
  rw [← regKeys_ref]
  exact List.Pairwise.imp (S := fun k k' => k ≠ k') (fun {x y} (h : baLt x y) (e : x = y) => baLt_irrefl y (by rw [e] at h; exact h)) (insNames_asc _ _ List.Pairwise.nil)
theorem evKeys_ne (a b : Doc) : (evKeys a b).Pairwise (fun k k' => k ≠ k') := (sortI_asc _).1.imp fun h e => by omega
theorem cmKeys_ne (a b : Doc) : (cmKeys a b).Pairwise (fun k k' => k ≠ k') := (sortI_asc _).1.imp fun h e => by omega
theorem chgs_keys (a b : Doc) : (chgs a b).Pairwise (fun c c' => ¬ SameKey c c') := by
  unfold chgs chgsOf
  rw [List.pairwise_append]
  refine ⟨short_pair (chgHead_le _ _), ?_, fun c hc c' hc' hk => ?_⟩
  · rw [List.pairwise_append]
    refine ⟨?_, ?_, fun c hc c' hc' hk => ?_⟩
    · rw [List.pairwise_flatMap]
      refine ⟨fun k _ => short_pair (chgReg_le _ _ _), (regKeys_ne a b).imp fun hne c hc c' hc' hk => ?_⟩
      obtain ⟨h1, h2, _⟩ := chgReg_at hc
      obtain ⟨h3, h4, _⟩ := chgReg_at hc'
      rcases hk.2 with h | ⟨_, h⟩ | ⟨h, _⟩ | ⟨h, _⟩
      · omega
      · exact hne (h2.symm.trans (h.trans h4))
      · omega
      · omega
    · rw [List.pairwise_append]
      refine ⟨?_, ?_, fun c hc c' hc' hk => ?_⟩
      · rw [List.pairwise_flatMap]
        refine ⟨fun k _ => short_pair (chgEv_le _ _ _), (evKeys_ne a b).imp fun hne c hc c' hc' hk => ?_⟩
        obtain ⟨h1, h2, _⟩ := chgEv_at hc
        obtain ⟨h3, h4, _⟩ := chgEv_at hc'
        rcases hk.2 with h | ⟨h, _⟩ | ⟨_, h⟩ | ⟨h, _⟩
        · omega
        · omega
        · exact hne (h2.symm.trans (h.trans h4))
        · omega
      · rw [List.pairwise_flatMap]
        refine ⟨fun k _ => short_pair (chgCm_le _ _ _), (cmKeys_ne a b).imp fun hne c hc c' hc' hk => ?_⟩
        obtain ⟨h1, h2, _⟩ := chgCm_at hc
        obtain ⟨h3, h4, _⟩ := chgCm_at hc'
        rcases hk.2 with h | ⟨h, _⟩ | ⟨h, _⟩ | ⟨_, h⟩
        · omega
        · omega
        · omega
        · exact hne (h2.symm.trans (h.trans h4))
      · obtain ⟨k, _, hc⟩ := List.mem_flatMap.1 hc
        obtain ⟨k', _, hc'⟩ := List.mem_flatMap.1 hc'
        have := (chgEv_at hc).1; have := (chgCm_at hc').1; have := hk.1
        omega
    · obtain ⟨k, _, hc⟩ := List.mem_flatMap.1 hc
      have h1 := (chgReg_at hc).1
      have h2 := hk.1
      rcases List.mem_append.1 hc' with hc' | hc'
      · obtain ⟨k', _, hc'⟩ := List.mem_flatMap.1 hc'
        have := (chgEv_at hc').1
        omega
      · obtain ⟨k', _, hc'⟩ := List.mem_flatMap.1 hc'
        have := (chgCm_at hc').1
        omega
  · have h1 := (chgHead_at hc).1
    have h2 := hk.1
    rcases List.mem_append.1 hc' with hc' | hc'
    · obtain ⟨k', _, hc'⟩ := List.mem_flatMap.1 hc'
      have := (chgReg_at hc').1
      omega
    · rcases List.mem_append.1 hc' with hc' | hc'
      · obtain ⟨k', _, hc'⟩ := List.mem_flatMap.1 hc'
        have := (chgEv_at hc').1
        omega
      · obtain ⟨k', _, hc'⟩ := List.mem_flatMap.1 hc'
        have := (chgCm_at hc').1
        omega
/-- Where a list of changes has none, the documents have the same. -/
structure Covers (a b : DocC) (L : List ChgC) : Prop where
  hd : (¬ ∃ c ∈ L, c.sec = 1) → a.hd = b.hd
  regs : ∀ k, (¬ ∃ c ∈ L, c.sec = 2 ∧ c.name = k) → a.regs.find? (regAt k) = b.regs.find? (regAt k)
  evs : ∀ k, (¬ ∃ c ∈ L, c.sec = 3 ∧ c.id = k) → a.evs.find? (evAt k) = b.evs.find? (evAt k)
  cms : ∀ k, (¬ ∃ c ∈ L, c.sec = 4 ∧ c.id = k) → a.cms.find? (cmAt k) = b.cms.find? (cmAt k)
theorem Covers.mid {a b : DocC} {L : List ChgC} (ha : DocOk a) (h : Covers a b L) : Mid a b a L :=
  ⟨ha, ⟨fun _ => rfl, h.hd⟩, fun k => ⟨fun _ => rfl, h.regs k⟩, fun k => ⟨fun _ => rfl, h.evs k⟩, fun k => ⟨fun _ => rfl, h.cms k⟩⟩
theorem mem_invL {c : ChgC} {L : List ChgC} : c ∈ invL L ↔ ∃ x ∈ L, invC x = c := by
  unfold invL
  rw [List.mem_reverse, List.mem_map]
theorem ex_inv {P : ChgC → Prop} (hP : ∀ c, P (invC c) ↔ P c) {L : List ChgC} : (∃ c ∈ invL L, P c) ↔ ∃ c ∈ L, P c := by
  constructor
  · rintro ⟨c, hc, hp⟩
    obtain ⟨x, hx, rfl⟩ := mem_invL.1 hc
    exact ⟨x, hx, (hP x).1 hp⟩
  · rintro ⟨c, hc, hp⟩
    exact ⟨invC c, mem_invL.2 ⟨c, hc, rfl⟩, (hP c).2 hp⟩
theorem Covers.inv {a b : DocC} {L : List ChgC} (h : Covers a b L) : Covers b a (invL L) :=
  ⟨fun e => (h.hd fun x => e ((ex_inv (P := fun c => c.sec = 1) fun _ => Iff.rfl).2 x)).symm,
    fun k e => (h.regs k fun x => e ((ex_inv (P := fun c => c.sec = 2 ∧ c.name = k) fun _ => Iff.rfl).2 x)).symm,
    fun k e => (h.evs k fun x => e ((ex_inv (P := fun c => c.sec = 3 ∧ c.id = k) fun _ => Iff.rfl).2 x)).symm,
    fun k e => (h.cms k fun x => e ((ex_inv (P := fun c => c.sec = 4 ∧ c.id = k) fun _ => Iff.rfl).2 x)).symm⟩
theorem not_found {α : Type} {p : α → Bool} {l : List α} (h : ∀ x ∈ l, ¬ p x = true) : l.find? p = none := List.find?_eq_none.2 h
theorem mem_regKeys {a b : Doc} {x : Reg} (h : x ∈ a.regs ∨ x ∈ b.regs) : x.name ∈ regKeys a b := by
  rw [← regKeys_ref, insNames_mem, List.map_append, List.mem_append]
  exact .inr (h.imp (fun h => List.mem_map.2 ⟨x, h, rfl⟩) fun h => List.mem_map.2 ⟨x, h, rfl⟩)
theorem mem_evKeys {a b : Doc} {x : Ev} (h : x ∈ a.evs ∨ x ∈ b.evs) : x.id ∈ evKeys a b := by
  unfold evKeys
  rw [(sortI_asc _).2, List.map_append, List.mem_append]
  exact h.imp (fun h => List.mem_map.2 ⟨x, h, rfl⟩) fun h => List.mem_map.2 ⟨x, h, rfl⟩
theorem mem_cmKeys {a b : Doc} {x : Cm} (h : x ∈ a.cms ∨ x ∈ b.cms) : x.id ∈ cmKeys a b := by
  unfold cmKeys
  rw [(sortI_asc _).2, List.map_append, List.mem_append]
  exact h.imp (fun h => List.mem_map.2 ⟨x, h, rfl⟩) fun h => List.mem_map.2 ⟨x, h, rfl⟩
theorem chgs_covers (a b : Doc) : Covers a.c b.c (chgs a b) := by
  refine ⟨fun h => ?_, fun k h => ?_, fun k h => ?_, fun k h => ?_⟩
  · by_cases e : hdEq a.hd b.hd = true
    · exact hd_eq e
    · exact absurd ⟨_, mem_chgs (.inl (by unfold chgHead; rw [if_neg e]; exact List.mem_singleton_self _)), rfl⟩ h
  · show a.regs.find? (regAt k) = b.regs.find? (regAt k)
    by_cases hk : k ∈ regKeys a b
    · refine same_of (z := zeroReg) (fun v u => reg_eq) fun e => h ?_
      refine ⟨(⟨2, 0, k, !(a.regs.find? (nameIs k)).isSome, !(b.regs.find? (nameIs k)).isSome, zeroHd, zeroHd, (a.regs.find? (nameIs k)).getD zeroReg, (b.regs.find? (nameIs k)).getD zeroReg, zeroEvC, zeroEvC, zeroCm, zeroCm⟩ : ChgC), mem_chgs (.inr (.inl ⟨k, hk, ?_⟩)), rfl, rfl⟩
      unfold chgReg
      rw [if_pos (show ((a.regs.find? (nameIs k)).isSome != (b.regs.find? (nameIs k)).isSome || !regEq ((a.regs.find? (nameIs k)).getD zeroReg) ((b.regs.find? (nameIs k)).getD zeroReg)) = true from e)]
      exact List.mem_singleton_self _
    · have hn : ∀ x : Reg, x ∈ a.regs ∨ x ∈ b.regs → ¬ regAt k x = true := fun x hx hp => hk (by have h1 := mem_regKeys hx; rw [regAt_name hp] at h1; exact h1)
      rw [not_found fun x hx => hn x (.inl hx), not_found fun x hx => hn x (.inr hx)]
  · show (a.evs.map Ev.c).find? (evAt k) = (b.evs.map Ev.c).find? (evAt k)
    by_cases hk : k ∈ evKeys a b
    · refine same_of (z := zeroEvC) (fun v u => evCEq_eq) fun e => h ?_
      have hm := mem_chgs (a := a) (b := b) (.inr (.inr (.inl ⟨k, hk, by rw [chgEv_c, if_pos e]; exact List.mem_singleton_self _⟩)))
      exact ⟨_, hm, rfl, rfl⟩
    · have hn : ∀ x : EvC, x ∈ a.evs.map Ev.c ∨ x ∈ b.evs.map Ev.c → ¬ evAt k x = true := by
        intro x hx hp
        have hxk : x.id = k := by simpa [evAt] using hp
        rcases hx with hx | hx
        · obtain ⟨y, hy, rfl⟩ := List.mem_map.1 hx
          exact hk (hxk ▸ mem_evKeys (.inl hy))
        · obtain ⟨y, hy, rfl⟩ := List.mem_map.1 hx
          exact hk (hxk ▸ mem_evKeys (.inr hy))
      rw [not_found fun x hx => hn x (.inl hx), not_found fun x hx => hn x (.inr hx)]
  · show a.cms.find? (cmAt k) = b.cms.find? (cmAt k)
    by_cases hk : k ∈ cmKeys a b
    · refine same_of (z := zeroCm) (fun v u => cm_eq) fun e => h ?_
      refine ⟨(⟨4, k, ⟨#[]⟩, !(a.cms.find? (cmIs k)).isSome, !(b.cms.find? (cmIs k)).isSome, zeroHd, zeroHd, zeroReg, zeroReg, zeroEvC, zeroEvC, (a.cms.find? (cmIs k)).getD zeroCm, (b.cms.find? (cmIs k)).getD zeroCm⟩ : ChgC), mem_chgs (.inr (.inr (.inr ⟨k, hk, ?_⟩))), rfl, rfl⟩
      unfold chgCm
      rw [if_pos (show ((a.cms.find? (cmIs k)).isSome != (b.cms.find? (cmIs k)).isSome || !cmEq ((a.cms.find? (cmIs k)).getD zeroCm) ((b.cms.find? (cmIs k)).getD zeroCm)) = true from e)]
      exact List.mem_singleton_self _
    · have hc : ∀ x : Cm, cmAt k x = true → x.id = k := fun x h => by simpa [cmAt] using h
      have hn : ∀ x : Cm, x ∈ a.cms ∨ x ∈ b.cms → ¬ cmAt k x = true := fun x hx hp => hk (by have h1 := mem_cmKeys hx; rw [hc x hp] at h1; exact h1)
      rw [not_found fun x hx => hn x (.inl hx), not_found fun x hx => hn x (.inr hx)]
/-- The changes lead from the one document to the other. -/
theorem chgs_forth {a b : Doc} (ha : DocOk a.c) (hb : DocOk b.c) : patchC a.c (chgs a b) = (0, b.c) :=
  lead hb _ _ (fun c hc => (chgs_lead hc).1) (chgs_keys a b) ((chgs_covers a b).mid ha)
theorem sameKey_inv {c c' : ChgC} : SameKey (invC c') (invC c) ↔ SameKey c c' := by
  unfold SameKey invC
  constructor
  · rintro ⟨h1, h2⟩
    simp only at h1 h2
    refine ⟨h1.symm, ?_⟩
    rcases h2 with h | ⟨h, e⟩ | ⟨h, e⟩ | ⟨h, e⟩
    · exact .inl (by omega)
    · exact .inr (.inl ⟨by omega, e.symm⟩)
    · exact .inr (.inr (.inl ⟨by omega, e.symm⟩))
    · exact .inr (.inr (.inr ⟨by omega, e.symm⟩))
  · rintro ⟨h1, h2⟩
    simp only
    refine ⟨h1.symm, ?_⟩
    rcases h2 with h | ⟨h, e⟩ | ⟨h, e⟩ | ⟨h, e⟩
    · exact .inl (by omega)
    · exact .inr (.inl ⟨by omega, e.symm⟩)
    · exact .inr (.inr (.inl ⟨by omega, e.symm⟩))
    · exact .inr (.inr (.inr ⟨by omega, e.symm⟩))
/-- Their inverses lead back. -/
theorem chgs_back {a b : Doc} (ha : DocOk a.c) (hb : DocOk b.c) : patchC b.c (invL (chgs a b)) = (0, a.c) := by
  refine lead ha _ _ (fun c hc => ?_) ?_ ((chgs_covers a b).inv.mid hb)
  · obtain ⟨x, hx, rfl⟩ := mem_invL.1 hc
    exact (chgs_lead hx).1.inv
  · unfold invL
    rw [List.pairwise_reverse, List.pairwise_map]
    exact (chgs_keys a b).imp fun h e => h (sameKey_inv.1 e)
theorem chgs_none {a b : Doc} (ha : DocOk a.c) (hb : DocOk b.c) : chgs a b = [] ↔ a.c = b.c := by
  constructor
  · intro h
    have := chgs_covers a b
    rw [h] at this
    exact docC_ext ha hb (this.hd no_ex) (fun k => this.regs k no_ex) (fun k => this.evs k no_ex) fun k => this.cms k no_ex
  · intro h
    refine List.eq_nil_iff_forall_not_mem.2 fun c hc => (chgs_lead hc).2 h
end Go.Proofs.YtnlnmbcaongehaaGreatDoor
namespace Go.Proofs.YtnlnmbcaongehaaGreatDoor
open Go.RowKit
def RPatchRel (St : Nat → Doc → Prop) (w : World) (gB : Nat) (k : Nat) (wr : World) : Prop :=
  ∃ d' : Doc, DocAt d' gB wr ∧ St k d' ∧ (∀ b, d'.uses b → w.heap.size + 2 ≤ b) ∧ wr.heap[w.heap.size + 1]? = some (.cells zeroDocA 27 (0, 0)) ∧ Below w.heap.size w wr
theorem RPatchRel.start {St : Nat → Doc → Prop} {w w2 : World} {d2 : Doc} (hz : w2.heap[w.heap.size + 1]? = some (.cells zeroDocA 27 (0, 0))) (hl : d2.lies w2) (hu : ∀ b, d2.uses b → w.heap.size + 2 ≤ b) (hb : Below w.heap.size w w2) (h0 : St 0 d2) :
    RPatchRel St w w2.heap.size 0 (w2.alloc (.cells d2.enc.toArray 27)) := by
  have hba : Below w2.heap.size w2 (w2.alloc (.cells d2.enc.toArray 27)) := (Below.refl _ _).alloc (Nat.le_refl _) _
  exact ⟨d2, ⟨heap_alloc_last w2 _, Doc.later hl hba, fun b h => by have := Doc.uses_lt hl h; omega⟩, h0, hu, alloc_at hz, hb.trans (hba.mono hb.size)⟩
theorem RPatchRel.step {St : Nat → Doc → Prop} {w wr w1 w5 : World} {gB : Nat} {d' d2 : Doc} {k : Nat} (h1 : DocAt d' gB wr) (hg : w.heap.size + 2 ≤ gB) (h3 : ∀ b, d'.uses b → w.heap.size + 2 ≤ b) (h4 : wr.heap[w.heap.size + 1]? = some (.cells zeroDocA 27 (0, 0))) (h5 : Below w.heap.size w wr) (hb : Below wr.heap.size wr w1)
    (q1 : d2.lies w5) (q2 : ∀ b, d2.uses b → d'.uses b ∨ w1.heap.size ≤ b) (q3 : Below w1.heap.size w1 w5) (q4 : St k d2) : RPatchRel St w gB k (w5.setRow gB d2.enc.toArray) ∧ (w5.setRow gB d2.enc.toArray).heap[w.heap.size + 1]? = some (.cells zeroDocA 27 (0, 0)) ∧ Below w.heap.size w (w5.setRow gB d2.enc.toArray) := by
  have hgl := (Array.getElem?_eq_some_iff.1 h1.cells).1
  have hlt : w.heap.size + 1 < wr.heap.size := (Array.getElem?_eq_some_iff.1 h4).1
  have hs := hb.size
  have hb5 := hb.trans (q3.mono hs)
  have hk5 := (hb5.block gB hgl).trans h1.cells
  have hz5 : (w5.setRow gB d2.enc.toArray).heap[w.heap.size + 1]? = some (.cells zeroDocA 27 (0, 0)) := by
    rw [setRow_other _ _ _ _ (by omega), hb5.block _ hlt]
    exact h4
  have hbw : Below w.heap.size w (w5.setRow gB d2.enc.toArray) := below_setRow (h5.trans (hb5.mono h5.size)) (by omega) _
  have hne : ∀ b, d2.uses b → b ≠ gB := fun b hu => by
    rcases q2 b hu with h | h
    · exact h1.apart b h
    · omega
  refine ⟨⟨d2, ⟨setRow_heap w5 _ _ _ 27 (0, 0) hk5, Doc.frame q1 (by simp) (fun b h => setRow_other w5 _ b _ (hne b h)), hne⟩, q4, fun b hu => ?_, hz5, hbw⟩, hz5, hbw⟩
  rcases q2 b hu with h | h
  · exact h3 b h
  · have := h5.size
    omega
end Go.Proofs.YtnlnmbcaongehaaGreatDoor
namespace Go.Proofs.YtnlnmbcaongehaaGreatDoor
open Go.RowKit
/-- The document behind k changes. -/
def PSt (d : DocC) (l : List ChgC) (n k : Nat) (d' : Doc) : Prop := k ≤ l.length ∧ DocOk d'.c ∧ d'.c.fits (n + k) ∧ patchC d l = patchC d'.c (l.drop k)
theorem PSt.step {d : DocC} {l : List ChgC} {n k : Nat} {d' d2 : Doc} {c : ChgC} {err : Int} (h : PSt d l n k d') (hc : l[k]? = some c) (hf : c.full) (he : err = (applyC d'.c c).1) (h2 : d2.c = (applyC d'.c c).2) : (err = 0 → PSt d l n (k + 1) d2) ∧ (err ≠ 0 → (patchC d l).1 = err) := by
  obtain ⟨h1, h3, h4, h5⟩ := h
  have hk : k < l.length := (List.getElem?_eq_some_iff.1 hc).1
  rw [drop_at l k c hc, patchC] at h5
  refine ⟨fun h0 => ⟨by omega, by rw [h2]; exact applyC_ok h3, by rw [h2]; exact applyC_fits h4 hf, ?_⟩, fun h0 => ?_⟩
  · rw [if_pos (he.symm.trans h0)] at h5
    rw [h5, h2]
  · rw [if_neg (fun e => h0 (he.trans e))] at h5
    rw [h5, ← he]
theorem PSt.fin {d : DocC} {l : List ChgC} {n : Nat} {d' : Doc} (h : PSt d l n l.length d') : patchC d l = (0, d'.c) := by
  obtain ⟨_, _, _, h5⟩ := h
  rw [List.drop_length, patchC] at h5
  exact h5
theorem bad_of {d : Doc} {l : List ChgC} {err : Int} (h0 : docErr d = 0) (h : (patchC d.c l).1 = err) (hne : err ≠ 0) : patchErr d.c l = err := by
  unfold patchErr
  rw [if_pos ((docErr_c d).symm.trans h0), if_neg (by rw [h]; exact hne), h]
theorem bad_fin {d : Doc} {xs : List Chg} {n : Nat} {d' : Doc} (h0 : docErr d = 0) (h : PSt d.c (xs.map Chg.c) n xs.length d') : patchErr d.c (xs.map Chg.c) = docErr d' := by
  have hlen : xs.length = (xs.map Chg.c).length := by rw [List.length_map]
  rw [hlen] at h
  unfold patchErr
  rw [if_pos ((docErr_c d).symm.trans h0), h.fin, if_pos rfl, ← docErr_c]
end Go.Proofs.YtnlnmbcaongehaaGreatDoor
