/- The contract of diff.apply at an event's change. (printed by gen_applyev.py) The chapter's example: its two documents, that they are in order, and the changes between them. The contract of lines.Decimal. The fields in which a change's sides differ, and the report of changes, in plain words. -/
import Derived.Deep.MidRow
import Derived.Test.YtnlnmbcaongehaaGreatDoorBase16
import Derived.Test.YtnlnmbcaongehaaGreatDoorBase08
import Derived.Test.YtnlnmbcaongehaaGreatDoorBase09
import Derived.Test.YtnlnmbcaongehaaGreatDoorBase05
set_option linter.unusedVariables false
set_option linter.unusedSimpArgs false
namespace Go.Proofs.YtnlnmbcaongehaaGreatDoor
open Go.RowKit
attribute [local go_sem ↓] Go.wp_at_zero Go.wp_at_succ
def apEvErr (evs : List Ev) (c : Chg) : Int := allowedErr c.added (first (fun x : Ev => x.id == c.id) evs).isSome (evEq (((first (fun x : Ev => x.id == c.id) evs).map (·.1)).getD zeroEv) c.oe)
def apEvIdx (evs : List Ev) (c : Chg) : Nat := ((first (fun x : Ev => x.id == c.id) evs).map (·.2)).getD 0
/-- The contents of the new event: the change's own ID in the new value. -/
def newEvC (c : Chg) : EvC := ⟨c.id, c.ne.inn, c.ne.out, c.ne.region, c.ne.kind, c.ne.speaker, c.ne.rows.map Row.runs⟩
/-- The list behind the change, ahead of its being sorted. -/
def apEvs (evs : List Ev) (c : Chg) (y : Ev) : List Ev := changedL c.added c.gone (apEvIdx evs c) (fun z : Ev => decide (z.id < y.id)) evs y
def EvPost (d : Doc) (g : Nat) (c : Chg) (w : World) (e : Ending) (w' : World) : Prop :=
  if apEvErr d.evs c = 0 then e = .returned (.int .i64 0) ∧ ∃ (d' : Doc) (y : Ev), w'.heap[g]? = some (.cells d'.enc.toArray 27 (0, 0)) ∧ y.c = newEvC c ∧ d'.hd = d.hd ∧ d'.regs = d.regs ∧ d'.cms = d.cms ∧ (d'.evs.map Ev.c).Perm ((apEvs d.evs c y).map Ev.c) ∧ d'.evs.Pairwise (fun x y => ltOf cmpEv y x = false) ∧ d'.lies w' ∧ (∀ b, d'.uses b → b ≠ g ∧ (d.uses b ∨ w.heap.size ≤ b)) ∧ w.grownBy w' (some g)
  else ApplyPost (apEvErr d.evs c) d.c d g w e w'
theorem changedL_mem {α : Type} {ad gn : Bool} {k : Nat} {p : α → Bool} {xs : List α} {y x : α} (h : x ∈ changedL ad gn k p xs y) : x ∈ xs ∨ x = y := by
  have h1 : ∀ z, z ∈ (if ad = true then xs else dropAt xs k) → z ∈ xs := by
    intro z hz
    split at hz
    · exact hz
    · rcases List.mem_append.1 hz with h | h
      · exact List.mem_of_mem_take h
      · exact List.mem_of_mem_drop h
  unfold changedL at h
  split at h
  · exact .inl (h1 x h)
  · rcases List.mem_append.1 h with h | h
    · rcases List.mem_append.1 h with h | h
      · exact .inl (h1 x (List.mem_of_mem_take h))
      · exact .inr (by simpa using h)
    · exact .inl (h1 x (List.mem_of_mem_drop h))
theorem changedL_len {α : Type} (ad gn : Bool) (k : Nat) (p : α → Bool) (xs : List α) (y : α) : (changedL ad gn k p xs y).length ≤ xs.length + 1 := by
  have h1 : (if ad = true then xs else dropAt xs k).length ≤ xs.length := by
    split
    · exact Nat.le_refl _
    · exact dropAt_le xs k
  unfold changedL
  split
  · omega
  · rw [insAt_len _ _ _ (rankOf_le _ _)]
    omega
theorem ev_fits_c {x y : Ev} (hid : i64 y.id) (h1 : y.inn = x.inn) (h2 : y.out = x.out) (h3 : y.region = x.region) (h4 : y.kind = x.kind) (h5 : y.speaker = x.speaker) (h6 : y.rows.map Row.runs = x.rows.map Row.runs) (h : x.fits) : y.fits := by
  obtain ⟨_, q1, q2, q3, q4, q5, q6, q7, q8⟩ := h
  refine ⟨hid, h1 ▸ q1, h2 ▸ q2, h3 ▸ q3, h4 ▸ q4, h4 ▸ q5, h5 ▸ q6, fun r hr => ?_, ?_⟩
  · have : r.runs ∈ x.rows.map Row.runs := by rw [← h6]; exact List.mem_map.2 ⟨r, hr, rfl⟩
    obtain ⟨r0, h0, he⟩ := List.mem_map.1 this
    have := q7 r0 h0
    unfold Row.fits at this ⊢
    rwa [he] at this
  · have := congrArg List.length h6
    simp only [List.length_map] at this
    omega
theorem flat_of {α : Type} {K : Nat} {enc : α → List Value} {Ok : World → α → Prop} {w : World} {a : Option Addr} {xs : List α} (h : SliceOf K enc Ok w a xs) : SliceOf K enc Flat w a xs := by
  rcases h with h | ⟨b, off, h1, h2, h3⟩
  · exact .inl h
  · exact .inr ⟨b, off, h1, h2, fun i x hx => ⟨(h3 i x hx).1, trivial⟩⟩
theorem of_flat {α : Type} {K : Nat} {enc : α → List Value} {Ok : World → α → Prop} {w : World} {a : Option Addr} {xs : List α} (h : SliceOf K enc Flat w a xs) (ho : ∀ x ∈ xs, Ok w x) : SliceOf K enc Ok w a xs := by
  rcases h with h | ⟨b, off, h1, h2, h3⟩
  · exact .inl h
  · exact .inr ⟨b, off, h1, h2, fun i x hx => ⟨(h3 i x hx).1, ho x (List.mem_of_getElem? hx)⟩⟩
theorem evs_fin {d : Doc} {g : Nat} {c : Chg} {w w1 w2 W1 : World} {y : Ev} {ys : List Ev} {v : Value} (hd : DocAt d g w) (h0 : apEvErr d.evs c = 0) (hyc : y.c = newEvC c) (B : Nat) (hB : w.heap.size ≤ B) (hG : GrowEv B W1 v ys w1) (hb : Below w.heap.size w w1) (hp : (ys.map Ev.c).Perm ((apEvs d.evs c y).map Ev.c)) (hs : ys.Pairwise (fun x y => ltOf cmpEv y x = false)) (hw : w2 = w1.setCell ⟨g, 6, none⟩ v) :
    EvPost d g c w (.returned (.int .i64 0)) w2 := by
  subst hw
  unfold EvPost
  rw [if_pos h0]
  have hgw : g < w.heap.size := (Array.getElem?_eq_some_iff.1 hd.cells).1
  have h1 := hd.below hb
  obtain ⟨a, c', rfl, hS⟩ := GrowL.slice (k := 7) (enc := Ev.enc) (fun _ => rfl) hG
  have hsz : (w1.setCell ⟨g, 6, none⟩ (.slice a ys.length c')).heap.size = w1.heap.size := by simp
  have hfr : ∀ b, b ≠ g → (w1.setCell ⟨g, 6, none⟩ (.slice a ys.length c')).heap[b]? = w1.heap[b]? := fun b h => Below.heap_setCell _ _ _ _ h
  have hus : ∀ b, evsUse a ys b → B ≤ b := fun b hu => by
    rcases hu with ⟨_, ad, e, rfl⟩ | ⟨z, hz, hu⟩
    · exact (hG.1.lt ad.block (by rw [e]; rfl)).1
    · exact ((hG.2.1 z hz).2 b hu).2
  refine ⟨rfl, ⟨d.title, d.lang, d.rate, d.drop, d.last, d.ra, d.rc, d.regs, a, c', ys, d.ca, d.cc, d.cms⟩, y, heap_setCell_same _ _ _ _ _ _ h1.cells, hyc, rfl, rfl, rfl, hp, hs, ⟨?_, ?_, ?_⟩, fun b hu => ?_, ⟨hb.os, hb.tape, hb.output, by rw [hsz]; exact hb.size, fun k hk hne => ?_⟩⟩
  · exact SliceOf.frame h1.lies.1 (by omega) (fun b hu => hfr b (hd.apart b (.inl hu))) (fun _ _ _ => trivial)
  · refine EvsAt.frame hS (by omega) fun b hu => hfr b ?_
    have := hus b hu
    omega
  · exact SliceOf.frame h1.lies.2.2 (by omega) (fun b hu => hfr b (hd.apart b (.inr (.inr hu)))) (fun _ _ _ => trivial)
  · rcases hu with hu | hu | hu
    · exact ⟨hd.apart b (.inl hu), .inl (.inl hu)⟩
    · have := hus b hu
      exact ⟨by omega, .inr (by omega)⟩
    · exact ⟨hd.apart b (.inr (.inr hu)), .inl (.inr (.inr hu))⟩
  · rw [hfr k (fun e => hne (by rw [e])), hb.block k hk]
theorem find39_full (r : Option (Ev × Nat)) : ∃ (x : Ev) (i : Int) (b : Bool), findVal39 r = .tuple #[.agg x.enc.toArray, .int .i64 i, .bool b] ∧ x = (r.map (·.1)).getD zeroEv ∧ b = r.isSome ∧ (b = true → i = ((((r.map (·.2)).getD 0 : Nat)) : Int)) := by
  cases r with
  | none => exact ⟨_, _, _, rfl, rfl, rfl, fun h => by cases h⟩
  | some q => exact ⟨_, _, _, rfl, rfl, rfl, fun _ => rfl⟩
set_option maxRecDepth 100000 in
set_option maxHeartbeats 12800000 in
theorem applyEv_calls (d : Doc) (g : Nat) (c : Chg) (w : World) (hsec : c.sec = 3) (hag : c.added = true → c.gone = false) (hd : DocAt d g w) (hcl0 : c.lies w) (hid : i64 c.id) (hfe : ∀ x ∈ d.evs, x.fits) (hfo : c.oe.fits) (hfn : c.ne.fits) (hl : d.evs.length + 1 ≤ 4000000) :
    Calls Tryz.prog 55 #[.pointer (some ⟨g, 0, none⟩), .agg c.enc.toArray] w (EvPost d g c w) := by
  have HERR := Lib.hid (fun (w' : World) (hb : Below w.heap.size w w') (h0 : ¬ apEvErr d.evs c = 0) => (show EvPost d g c w (.returned (.int .i64 (apEvErr d.evs c))) w' from by
    unfold EvPost
    rw [if_neg h0]
    exact hd.same hb _))
  obtain ⟨x, i, there, hv, hx, ht, hi⟩ := find39_full (first (fun x : Ev => x.id == c.id) d.evs)
  have hgot := ev_got hd.lies.2.1 hfe (fun x : Ev => x.id == c.id)
  rw [← hx] at hgot
  have HF := Lib.hid (fun (w1 : World) (h : Below w.heap.size w w1) => (show Calls Tryz.prog 39 #[.slice d.ea d.evs.length d.ec, .func (.func 38) #[] #[], .int .i64 c.id] w1 (fun e w' => e = .returned (.tuple #[.agg x.enc.toArray, .int .i64 i, .bool there]) ∧ Below w1.heap.size w1 w') from (find39_calls Ev.keeps d.ea d.ec d.evs c.id w1 (hd.lies.2.1.later h) (by omega)).mono (fun e w' p => ⟨by rw [← hv]; exact p.1, p.2⟩)))
  have hE : apEvErr d.evs c = allowedErr c.added there (evEq x c.oe) := by rw [hx, ht]; rfl
  have HAL := Lib.hid (fun (s : Bool) (w1 : World) => allowed_calls c there s w1)
  have HES := Lib.hid (fun (w1 : World) (h : Below w.heap.size w w1) => evSame_calls x c.oe w1 (hgot.1 w1 h) (Ev.keeps _ _ _ h hcl0.1) hgot.2.2 (fun r hr => (hfo.2.2.2.2.2.2.2.1 r hr).2.1) hgot.2.1)
  have HCN := Lib.hid (fun (w1 : World) (h : Below w.heap.size w w1) => evClone_calls c.ne w1 (Ev.keeps _ _ _ h hcl0.2) (fun r hr => (hfn.2.2.2.2.2.2.2.1 r hr).2.1) hfn.2.2.2.2.2.2.2.2)
  have hgw : g < w.heap.size := (Array.getElem?_eq_some_iff.1 hd.cells).1
  have HGC := Lib.hid (fun (w1 : World) (h : Below w.heap.size w w1) => (h.block g hgw).trans hd.cells)
  have HCHG := Lib.hid (fun (y : Ev) (w1 : World) (h : Below w.heap.size w w1) (h0 : apEvErr d.evs c = 0) => (show Calls Tryz.prog 112 #[.slice d.ea d.evs.length d.ec, .agg c.enc.toArray, .int .i64 i, .agg y.enc.toArray, .func (.func 38) #[] #[]] w1 (ListPost 7 Ev.enc (apEvs d.evs c y) w1) from changedEv_calls d.ea d.ec d.evs c (apEvIdx d.evs c) i y w1 (flat_of (hd.lies.2.1.later h)) (fun ha => by
    rw [h0] at hE
    have hth : there = true := by
      cases there
      · rw [ha] at hE
        simp [allowedErr] at hE
      · rfl
    refine ⟨?_, hi hth⟩
    rw [hth] at ht
    unfold apEvIdx
    cases hf : first (fun x : Ev => x.id == c.id) d.evs with
    | none => rw [hf] at ht; cases ht
    | some q =>
      obtain ⟨y, k⟩ := q
      obtain ⟨_, hk, _⟩ := firstFrom_get _ _ 0 y k hf
      simpa using (List.getElem?_eq_some_iff.1 hk).1) hag (by omega)))
  have HSORT := Lib.hid (fun (y : Ev) (a6 : Option Addr) (c6 : Nat) (w6 : World) (hb : Below w.heap.size w w6) (hS : SliceOf 7 Ev.enc Flat w6 a6 (apEvs d.evs c y)) (hy : y.lies w6) (hyc : y.c = newEvC c) => docSort_calls a6 c6 (apEvs d.evs c y) w6 (of_flat hS (fun z hz => by
    rcases changedL_mem hz with h | rfl
    · exact evs_each (hd.lies.2.1.later hb) h
    · exact hy)) (fun z hz => by
    rcases changedL_mem hz with h | rfl
    · exact hfe z h
    · exact ev_fits_c (x := c.ne) (by have e : z.id = c.id := congrArg EvC.id hyc; rw [e]; exact hid) (congrArg EvC.inn hyc) (congrArg EvC.out hyc) (congrArg EvC.region hyc) (congrArg EvC.kind hyc) (congrArg EvC.speaker hyc) (congrArg EvC.rows hyc) hfn) (by have := changedL_len c.added c.gone (apEvIdx d.evs c) (fun z : Ev => decide (z.id < y.id)) d.evs y; unfold apEvs; omega))
  have HFIN := Lib.hid (fun (y : Ev) (ys : List Ev) (v : Value) (w1 w2 : World) (h0 : apEvErr d.evs c = 0) (hyc : y.c = newEvC c) (B : Nat) (hB : w.heap.size ≤ B) (W1 : World) (hG : GrowEv B W1 v ys w1) hb hp hs hw => evs_fin (w2 := w2) hd h0 hyc B hB hG hb hp hs hw)
  generalize hAP : apEvs d.evs c = AP at *
  generalize hRE : evEq x c.oe = RE at *
  generalize apEvErr d.evs c = ERR at *
  generalize EvPost d g c w = Q at *
  generalize hNC : newEvC c = NC at *
  have HEQ := Lib.hid hE
  have HNC := Lib.hid (show NC = ⟨c.id, c.ne.c.inn, c.ne.c.out, c.ne.c.region, c.ne.c.kind, c.ne.c.speaker, c.ne.c.rows⟩ from hNC.symm)
  generalize hNE : c.ne.c = NE at HCN HNC
  clear hd hv hx ht hi hRE hE hAP hNC hNE hgot hcl0 hid hfe hfo hfn
  obtain ⟨sec, id, name, ad, gn, oh, nh, rg, nr, oe, ne, oc, nc⟩ := c
  simp only at hsec hag HNC
  subst hsec
  obtain ⟨title, lang, rate, drop, last, ra, rc, regs, ea, ec, evs, ca, cc, cms⟩ := d
  obtain ⟨xid, xin, xout, xreg, xkind, xsp, xa, xcp, xrows⟩ := x
  generalize hcl : Chg.enc _ = cl at *
  have hsz59 : cl.toArray.toList.length = 59 := by rw [← hcl]; rfl
  have hc0 : cl.toArray[0]? = some (.int .u8 3) := by rw [← hcl]; rfl
  have hc1 : cl.toArray[1]? = some (.int .i64 id) := by rw [← hcl]; rfl
  have hc3 : cl.toArray[3]? = some (.bool ad) := by rw [← hcl]; rfl
  have hc4 : cl.toArray[4]? = some (.bool gn) := by rw [← hcl]; rfl
  have hc29 : cl.toArray[29]? = some (.int .i64 oe.id) := by rw [← hcl]; rfl
  have hc30 : cl.toArray[30]? = some (.int .i64 oe.inn) := by rw [← hcl]; rfl
  have hc31 : cl.toArray[31]? = some (.int .i64 oe.out) := by rw [← hcl]; rfl
  have hc32 : cl.toArray[32]? = some (.string oe.region) := by rw [← hcl]; rfl
  have hc33 : cl.toArray[33]? = some (.int .u8 oe.kind) := by rw [← hcl]; rfl
  have hc34 : cl.toArray[34]? = some (.string oe.speaker) := by rw [← hcl]; rfl
  have hc35 : cl.toArray[35]? = some (.slice oe.at_ oe.rows.length oe.cap) := by rw [← hcl]; rfl
  have hc36 : cl.toArray[36]? = some (.int .i64 ne.id) := by rw [← hcl]; rfl
  have hc37 : cl.toArray[37]? = some (.int .i64 ne.inn) := by rw [← hcl]; rfl
  have hc38 : cl.toArray[38]? = some (.int .i64 ne.out) := by rw [← hcl]; rfl
  have hc39 : cl.toArray[39]? = some (.string ne.region) := by rw [← hcl]; rfl
  have hc40 : cl.toArray[40]? = some (.int .u8 ne.kind) := by rw [← hcl]; rfl
  have hc41 : cl.toArray[41]? = some (.string ne.speaker) := by rw [← hcl]; rfl
  have hc42 : cl.toArray[42]? = some (.slice ne.at_ ne.rows.length ne.cap) := by rw [← hcl]; rfl
  clear hcl
  obtain ⟨id5, in5, out5, reg5, kind5, sp5, a5, cp5, rows5⟩ := oe
  obtain ⟨id6, in6, out6, reg6, kind6, sp6, a6, cp6, rows6⟩ := ne
  obtain ⟨cs, hcs⟩ : ∃ cs, cs = cl.toArray := ⟨_, rfl⟩
  rw [← hcs] at hc0 hc1 hc3 hc4 hc29 hc30 hc31 hc32 hc33 hc34 hc35 hc36 hc37 hc38 hc39 hc40 hc41 hc42 hsz59
  simp only [← hcs, Doc.enc, Ev.enc] at *
  clear hcs
  have f0 := box_cell w cs 54 0 _ hc0
  have f1 := box_cell w cs 54 1 _ hc1
  have f3 := box_cell w cs 54 3 _ hc3
  have f4 := box_cell w cs 54 4 _ hc4
  have f29 := box_cell w cs 54 29 _ hc29
  have f30 := box_cell w cs 54 30 _ hc30
  have f31 := box_cell w cs 54 31 _ hc31
  have f32 := box_cell w cs 54 32 _ hc32
  have f33 := box_cell w cs 54 33 _ hc33
  have f34 := box_cell w cs 54 34 _ hc34
  have f35 := box_cell w cs 54 35 _ hc35
  have f36 := box_cell w cs 54 36 _ hc36
  have f37 := box_cell w cs 54 37 _ hc37
  have f38 := box_cell w cs 54 38 _ hc38
  have f39 := box_cell w cs 54 39 _ hc39
  have f40 := box_cell w cs 54 40 _ hc40
  have f41 := box_cell w cs 54 41 _ hc41
  have f42 := box_cell w cs 54 42 _ hc42
  have hb0 : Below (w.heap.size + 1) (w.alloc (.cells cs 54)) (w.alloc (.cells cs 54)) := Below.refl _ _
  have hsz : (w.alloc (.cells cs 54)).heap.size = w.heap.size + 1 := World.size_alloc _ _
  have HB := Lib.hid (fun (w1 : World) (h : Below (w.heap.size + 1) (w.alloc (.cells cs 54)) w1) => box_below h)
  have HRG := Lib.hid (fun (w1 : World) (h : Below (w.heap.size + 1) (w.alloc (.cells cs 54)) w1) => (show w1.rangeAt w.heap.size 0 cs.toList from fun j v hv => by
    rw [Nat.zero_add, cell_of_row _ _ j cs 54 (0, 0) ((h.block _ (by omega)).trans (heap_alloc_last w _))]
    simpa using hv))
  generalize hW0 : w.alloc (.cells cs 54) = W0 at *
  have HW0 := Lib.hid hW0
  have HSZ := Lib.hid hsz
  have HT0 := Lib.hid (fun (w2 w3 : World) (h : Below (w.heap.size + 1) W0 w2) (h3 : Below w2.heap.size w2 w3) => (h.trans (h3.mono (by have := h.size; rw [HSZ.out] at this; exact this)) : Below (w.heap.size + 1) W0 w3))
  have HLT := Lib.hid (fun (w2 : World) (h : Below (w.heap.size + 1) W0 w2) => (show w.heap.size + 1 ≤ w2.heap.size by have := h.size; rw [HSZ.out] at this; exact this))
  have bg : ∀ (w' : World), Below (w.heap.size + 1) W0 w' → ∀ (j : Nat), w'.cell? ⟨g, j, none⟩ = _ := fun w' h j => cell_of_row _ _ j _ 27 (0, 0) (HGC.out w' (HB.out _ h))
  have zg : ∀ (w' : World), Below (w.heap.size + 1) W0 w' → ∀ (j : Nat), w'.frozen? ⟨g, j, none⟩ = false := fun w' h j => by simp [World.frozen?, HGC.out w' (HB.out _ h)]
  have hbd : Below (w.heap.size + 1) W0 W0.drew := hb0.drew
  have HAD := Lib.hid (fun (o : Obj) => ((hb0.alloc (by rw [HSZ.out]; exact Nat.le_refl _) o).drew : Below (w.heap.size + 1) W0 (W0.alloc o).drew))
  have H59 := Lib.hid hsz59
  clear hW0 hsz hsz59 hc0 hc1 hc3 hc4 hc29 hc30 hc31 hc32 hc33 hc34 hc35 hc36 hc37 hc38 hc39 hc40 hc41 hc42
  have HAG := Lib.hid hag
  clear hag
  cases ad
  case' true => obtain rfl : gn = false := HAG.out rfl
  all_goals
    go_enter Tryz.func55, Tryz.ntmps55
    go_upto_region 1 with fail
    rw [HW0.out]
    go_upto_region 27 with fail
    go_cut [11, 12, 13] (fun s6 s7 s8 wx => ∃ gx, s6 = .pointer (some ⟨gx, 0, none⟩) ∧ s7 = .int .i64 i ∧ s8 = .bool there ∧ wx.heap[gx]? = some (.cells #[.int .i64 xid, .int .i64 xin, .int .i64 xout, .string xreg, .int .u8 xkind, .string xsp, .slice xa xrows.length xcp] 50 (0, 0)) ∧ w.heap.size + 1 ≤ gx ∧ Below (w.heap.size + 1) W0 wx)
    case first =>
      have HF1 := Lib.hid (fun (w1 : World) (h : Below (w.heap.size + 1) W0 w1) => (HF.out w1 (HB.out _ h)).mono (fun e w' p => (show e = _ ∧ Below (w.heap.size + 1) W0 w' ∧ Below w1.heap.size w1 w' from ⟨p.1, HT0.out _ _ h p.2, p.2⟩)))
      go_region_held3 (fun w' => Below (w.heap.size + 1) W0 w') (repeat (first | with_reducible assumption | with_reducible exact hbd | with_reducible exact HAD.out _ | with_reducible refine Below.setCell ?_ (by dsimp only; first | omega | (have := HSZ.out; simp; omega) | (have := HLT.out _ hc3; simp; omega)) _ | with_reducible refine Below.alloc ?_ (by first | exact HLT.out _ hc3 | (rw [HSZ.out]; exact Nat.le_refl _)) _)) (first
        | (go_at_call 39; (with_reducible refine (HF1.out _ ?_).mono ?_); (first | with_reducible assumption | with_reducible exact HAD.out _); rintro e w3 ⟨rfl, hc3, hr3⟩; (first | (with_reducible have hb3 := new_kept hr3; have HB3 := Lib.hid hb3; clear hb3) | skip); (first | (have bx3 : ∀ (j : Nat), w3.cell? ⟨W0.heap.size, j, none⟩ = _ := fun j => cell_of_row _ _ j _ 50 (0, 0) HB3.out; have zx3 : ∀ (j : Nat), w3.frozen? ⟨W0.heap.size, j, none⟩ = false := fun j => by simp [World.frozen?, HB3.out]) | skip); clear hr3))
      · go_wp2_with fail
        go_meet
        exact ⟨_, rfl, rfl, rfl, heap_alloc_last w3 _, HLT.out _ hc3, Below.alloc hc3 (HLT.out _ hc3) _⟩
      · go_wp2_with fail
        go_meet
        refine ⟨_, rfl, rfl, rfl, heap_setCell_same _ _ _ _ _ _ (heap_setCell_same _ _ _ _ _ _ (heap_setCell_same _ _ _ _ _ _ (heap_setCell_same _ _ _ _ _ _ (heap_setCell_same _ _ _ _ _ _ (heap_setCell_same _ _ _ _ _ _ (heap_setCell_same _ _ _ _ _ _ HB3.out)))))), by rw [HSZ.out]; exact Nat.le_refl _, ?_⟩
        repeat refine Below.setCell ?_ (by rw [HSZ.out]; exact Nat.le_refl _) _
        exact hc3
    case rest =>
      obtain ⟨gx, rfl, rfl, rfl, hgx, hgb, hcw⟩ := hcut
      have hlx := (Array.getElem?_eq_some_iff.1 hgx).1
      have cx : ∀ (w' : World), Below wc.heap.size wc w' → ∀ (j : Nat), w'.cell? ⟨gx, j, none⟩ = _ := fun w' h j => cell_of_row _ _ j _ 50 (0, 0) ((h.block gx hlx).trans hgx)
      have k0 := fun (w' : World) (h : Below wc.heap.size wc w') => f0 w' (HT0.out _ _ hcw h)
      have k1 := fun (w' : World) (h : Below wc.heap.size wc w') => f1 w' (HT0.out _ _ hcw h)
      have k3 := fun (w' : World) (h : Below wc.heap.size wc w') => f3 w' (HT0.out _ _ hcw h)
      have k4 := fun (w' : World) (h : Below wc.heap.size wc w') => f4 w' (HT0.out _ _ hcw h)
      have k29 := fun (w' : World) (h : Below wc.heap.size wc w') => f29 w' (HT0.out _ _ hcw h)
      have k30 := fun (w' : World) (h : Below wc.heap.size wc w') => f30 w' (HT0.out _ _ hcw h)
      have k31 := fun (w' : World) (h : Below wc.heap.size wc w') => f31 w' (HT0.out _ _ hcw h)
      have k32 := fun (w' : World) (h : Below wc.heap.size wc w') => f32 w' (HT0.out _ _ hcw h)
      have k33 := fun (w' : World) (h : Below wc.heap.size wc w') => f33 w' (HT0.out _ _ hcw h)
      have k34 := fun (w' : World) (h : Below wc.heap.size wc w') => f34 w' (HT0.out _ _ hcw h)
      have k35 := fun (w' : World) (h : Below wc.heap.size wc w') => f35 w' (HT0.out _ _ hcw h)
      have k36 := fun (w' : World) (h : Below wc.heap.size wc w') => f36 w' (HT0.out _ _ hcw h)
      have k37 := fun (w' : World) (h : Below wc.heap.size wc w') => f37 w' (HT0.out _ _ hcw h)
      have k38 := fun (w' : World) (h : Below wc.heap.size wc w') => f38 w' (HT0.out _ _ hcw h)
      have k39 := fun (w' : World) (h : Below wc.heap.size wc w') => f39 w' (HT0.out _ _ hcw h)
      have k40 := fun (w' : World) (h : Below wc.heap.size wc w') => f40 w' (HT0.out _ _ hcw h)
      have k41 := fun (w' : World) (h : Below wc.heap.size wc w') => f41 w' (HT0.out _ _ hcw h)
      have k42 := fun (w' : World) (h : Below wc.heap.size wc w') => f42 w' (HT0.out _ _ hcw h)
      have HAE := Lib.hid (fun (w1 : World) => HAL.out RE w1)
      rw [← HEQ.out] at HAE
      have hwd : Below wc.heap.size wc wc.drew := (Below.refl _ _).drew
      have BG := Lib.hid bg
      have ZG := Lib.hid zg
      have HCW := Lib.hid hcw
      clear hgx bg zg hb0 hbd HAD HF HAL f0 f1 f3 f4 f29 f30 f31 f32 f33 f34 f35 f36 f37 f38 f39 f40 f41 f42
      go_upto_region 28 with fail
      refine wp_region_held_drew (S := fun w' => Below wc.heap.size wc w') (by kernel_rfl) hwd (fun hHeld => ?_)
      refine wpAnyH_take (i := 0) (v := .agg cs.toList.toArray) rfl (by kernel_rfl) (by kernel_rfl) (by kernel_rfl) (fun _ _ _ h => h) (yieldsIf_load_mid (by rfl) 54 (.tmp 3) rfl w.heap.size 0 rfl cs.toList _ (fun w h => HRG.out w (HT0.out _ _ HCW.out h)) Tryz.underlying54 rfl (by rw [size54, H59.out])) (by assumption) ?_
      try simp only [Act.put, List.getElem_toArray, List.getElem_cons_zero, List.getElem_cons_succ, List.setIfInBounds_toArray, List.set_cons_zero, List.set_cons_succ, Array.toArray_toList]
      refine wpAnyH_take (i := 1) (v := .bool there) rfl (by kernel_rfl) (by kernel_rfl) (by kernel_rfl) (fun _ _ _ h => h) (.inl ⟨by rfl, fun w' h => by have h2 : Below wc.heap.size wc w' := h; go_simp⟩) (by assumption) ?_
      try simp only [Act.put, List.getElem_toArray, List.getElem_cons_zero, List.getElem_cons_succ, List.setIfInBounds_toArray, List.set_cons_zero, List.set_cons_succ, Array.toArray_toList]
      refine wpAnyH_take (i := 2) (v := .agg #[.int .i64 xid, .int .i64 xin, .int .i64 xout, .string xreg, .int .u8 xkind, .string xsp, .slice xa xrows.length xcp]) rfl (by kernel_rfl) (by kernel_rfl) (by kernel_rfl) (fun _ _ _ h => h) (.inl ⟨by rfl, fun w' h => by have h2 : Below wc.heap.size wc w' := h; go_simp⟩) (by assumption) ?_
      try simp only [Act.put, List.getElem_toArray, List.getElem_cons_zero, List.getElem_cons_succ, List.setIfInBounds_toArray, List.set_cons_zero, List.set_cons_succ, Array.toArray_toList]
      refine wpAnyH_take (i := 3) (v := .pointer (some ⟨w.heap.size, 29, none⟩)) rfl (by kernel_rfl) (by kernel_rfl) (by kernel_rfl) (fun _ _ _ h => h) (.inl ⟨by rfl, fun w' h => by have h2 : Below wc.heap.size wc w' := h; go_simp⟩) (by assumption) ?_
      try simp only [Act.put, List.getElem_toArray, List.getElem_cons_zero, List.getElem_cons_succ, List.setIfInBounds_toArray, List.set_cons_zero, List.set_cons_succ, Array.toArray_toList]
      refine wpAnyH_take (i := 4) (v := .agg #[.int .i64 id5, .int .i64 in5, .int .i64 out5, .string reg5, .int .u8 kind5, .string sp5, .slice a5 rows5.length cp5]) rfl (by kernel_rfl) (by kernel_rfl) (by kernel_rfl) (fun _ _ _ h => h) (.inl ⟨by rfl, fun w' h => by have h2 : Below wc.heap.size wc w' := h; go_simp⟩) (by assumption) ?_
      try simp only [Act.put, List.getElem_toArray, List.getElem_cons_zero, List.getElem_cons_succ, List.setIfInBounds_toArray, List.set_cons_zero, List.set_cons_succ, Array.toArray_toList]
      refine wpAnyH_ready (rs := [5]) (by kernel_rfl) (by simp) ?_
      refine AllReadyH.cons rfl (fun K hK => ?_) AllReadyH.nil
      go_simp
      refine (HES.out _ (HB.out _ (HT0.out _ _ HCW.out hwd))).mono ?_
      rintro e w3 ⟨rfl, hb3⟩
      have hw3 : Below wc.heap.size wc w3 := hwd.trans (hb3.mono hwd.size)
      clear hb3
      go_wp2_with fail
      refine hK.out _ _ hw3 (fun hHeld1 => ?_)
      clear hK
      try simp only [Act.put, List.getElem_toArray, List.getElem_cons_zero, List.getElem_cons_succ, List.setIfInBounds_toArray, List.set_cons_zero, List.set_cons_succ, Array.toArray_toList]
      refine wpAnyH_ready (rs := [6]) (by kernel_rfl) (by simp) ?_
      refine AllReadyH.cons rfl (fun K hK => ?_) AllReadyH.nil
      go_simp
      refine (HAE.out _).mono ?_
      rintro e w4 ⟨rfl, hb4⟩
      have hw4 : Below wc.heap.size wc w4 := hw3.trans (hb4.mono hw3.size)
      clear hb4
      go_wp2_with fail
      refine hK.out _ _ hw4 (fun hHeld2 => ?_)
      clear hK
      try simp only [Act.put, List.getElem_toArray, List.getElem_cons_zero, List.getElem_cons_succ, List.setIfInBounds_toArray, List.set_cons_zero, List.set_cons_succ, Array.toArray_toList]
      refine wpAnyH_take (i := 7) (v := .int .i64 ERR) rfl (by kernel_rfl) (by kernel_rfl) (by kernel_rfl) (fun _ _ _ h => h) (.inl ⟨by rfl, fun w' h => by have h2 : Below wc.heap.size wc w' := h; go_simp⟩) (by assumption) ?_
      try simp only [Act.put, List.getElem_toArray, List.getElem_cons_zero, List.getElem_cons_succ, List.setIfInBounds_toArray, List.set_cons_zero, List.set_cons_succ, Array.toArray_toList]
      refine wpAnyH_done (by kernel_rfl) ?_ _
      by_cases h0 : ERR = 0
      · subst h0
        have hcw4 := HT0.out _ _ HCW.out hw4
        go_wp2_with fail
        refine (HCN.out _ (HB.out _ hcw4)).mono ?_
        rintro e w8 ⟨y, rfl, hyc, hyl, hyu, hy8⟩
        have hw8 : Below wc.heap.size wc w8 := hw4.trans (hy8.mono hw4.size)
        have hal8 : ∀ o, Below wc.heap.size wc (w8.alloc o) := fun o => hw8.alloc hw8.size o
        have hcw8 := HT0.out _ _ HCW.out hw8
        obtain ⟨yid, yin, yout, yreg, ykind, ysp, ya, ycp, yrows⟩ := y
        simp only [Ev.enc]
        have HYC := Lib.hid hyc
        have HYL := Lib.hid hyl
        clear hyc hyl hyu hy8
        go_wp2_with fail
        obtain ⟨w5, hw5⟩ : ∃ w5, w5 = w8.alloc (.cells #[.int .i64 id, .int .i64 yin, .int .i64 yout, .string yreg, .int .u8 ykind, .string ysp, .slice ya yrows.length ycp] 50) := ⟨_, rfl⟩
        have hb5 : Below (w.heap.size + 1) W0 w5 := hw5 ▸ hcw8.alloc (HLT.out _ hcw8) _
        have h85 : Below w8.heap.size w8 w5 := hw5 ▸ (Below.refl _ _).alloc (Nat.le_refl _) _
        have hsz5 : w5.heap.size = w8.heap.size + 1 := by rw [hw5]; simp
        have hl8 := HLT.out _ hcw8
        have hky : w5.heap[w8.heap.size]? = some (.cells #[.int .i64 id, .int .i64 yin, .int .i64 yout, .string yreg, .int .u8 ykind, .string ysp, .slice ya yrows.length ycp] 50 (0, 0)) := hw5 ▸ heap_alloc_last w8 _
        have HSP := Lib.hid (fun (w' : World) (h : Aside w5 g w') => (show ∀ b, b < w5.heap.size → b ≠ g → w'.heap[b]? = w5.heap[b]? from h))
        have cy : ∀ (w' : World), Aside w5 g w' → ∀ (j : Nat), w'.cell? ⟨w8.heap.size, j, none⟩ = _ := fun w' h j => cell_of_row _ _ j _ 50 (0, 0) ((HSP.out w' h w8.heap.size (by omega) (by omega)).trans hky)
        have HRS := Lib.hid (fun (w' : World) (h : Aside w5 g w') => (show w'.rangeAt w.heap.size 0 cs.toList from fun j v hv => (World.cell?_of_block (a := ⟨w.heap.size, 0 + j, none⟩) (HSP.out w' h w.heap.size (by omega) (by omega))).trans (HRG.out w5 hb5 j v hv)))
        have hd5 : Aside w5 g w5.drew := fun b _ _ => rfl
        have bg5 := BG.out w5.drew hb5.drew
        have HY0 := Lib.hid (show (⟨id, yin, yout, yreg, ykind, ysp, ya, ycp, yrows⟩ : Ev).c = NC from by rw [HNC.out, ← HYC.out]; rfl)
        have HB5 := Lib.hid hb5
        have HW5 := Lib.hid hw5
        have H85 := Lib.hid h85.drew
        clear hky hw5 hcw4 hcw8 hb5 h85
        rw [← HW5.out]
        refine wp_region_held_drew (S := fun w' => Aside w5 g w') (by kernel_rfl) hd5 (fun hHeld => ?_)
        refine wpAnyH_take (i := 0) (v := .pointer (some ⟨g, 0, none⟩)) rfl (by kernel_rfl) (by kernel_rfl) (by kernel_rfl) (fun _ _ _ h => h) (.inl ⟨by rfl, fun w' h => by have h2 : Aside w5 g w' := h; go_simp⟩) (by assumption) ?_
        try simp only [Act.put, List.getElem_toArray, List.getElem_cons_zero, List.getElem_cons_succ, List.setIfInBounds_toArray, List.set_cons_zero, List.set_cons_succ, Array.toArray_toList]
        refine wpAnyH_take (i := 1) (v := .pointer (some ⟨g, 0, none⟩)) rfl (by kernel_rfl) (by kernel_rfl) (by kernel_rfl) (fun _ _ _ h => h) (.inl ⟨by rfl, fun w' h => by have h2 : Aside w5 g w' := h; go_simp⟩) (by assumption) ?_
        try simp only [Act.put, List.getElem_toArray, List.getElem_cons_zero, List.getElem_cons_succ, List.setIfInBounds_toArray, List.set_cons_zero, List.set_cons_succ, Array.toArray_toList]
        refine wpAnyH_take (i := 2) (v := .pointer (some ⟨g, 0, none⟩)) rfl (by kernel_rfl) (by kernel_rfl) (by kernel_rfl) (fun _ _ _ h => h) (.inl ⟨by rfl, fun w' h => by have h2 : Aside w5 g w' := h; go_simp⟩) (by assumption) ?_
        try simp only [Act.put, List.getElem_toArray, List.getElem_cons_zero, List.getElem_cons_succ, List.setIfInBounds_toArray, List.set_cons_zero, List.set_cons_succ, Array.toArray_toList]
        refine wpAnyH_take (i := 3) (v := .pointer (some ⟨g, 6, none⟩)) rfl (by kernel_rfl) (by kernel_rfl) (by kernel_rfl) (fun _ _ _ h => h) (.inl ⟨by rfl, fun w' h => by have h2 : Aside w5 g w' := h; go_simp⟩) (by assumption) ?_
        try simp only [Act.put, List.getElem_toArray, List.getElem_cons_zero, List.getElem_cons_succ, List.setIfInBounds_toArray, List.set_cons_zero, List.set_cons_succ, Array.toArray_toList]
        refine wpAnyH_take (i := 5) (v := .agg cs.toList.toArray) rfl (by kernel_rfl) (by kernel_rfl) (by kernel_rfl) (fun _ _ _ h => h) (yieldsIf_load_mid (by rfl) 54 (.tmp 3) rfl w.heap.size 0 rfl cs.toList _ (fun w h => HRS.out w h) Tryz.underlying54 rfl (by rw [size54, H59.out])) (by assumption) ?_
        try simp only [Act.put, List.getElem_toArray, List.getElem_cons_zero, List.getElem_cons_succ, List.setIfInBounds_toArray, List.set_cons_zero, List.set_cons_succ, Array.toArray_toList]
        refine wpAnyH_take (i := 6) (v := .int .i64 i) rfl (by kernel_rfl) (by kernel_rfl) (by kernel_rfl) (fun _ _ _ h => h) (.inl ⟨by rfl, fun w' h => by have h2 : Aside w5 g w' := h; go_simp⟩) (by assumption) ?_
        try simp only [Act.put, List.getElem_toArray, List.getElem_cons_zero, List.getElem_cons_succ, List.setIfInBounds_toArray, List.set_cons_zero, List.set_cons_succ, Array.toArray_toList]
        refine wpAnyH_take (i := 7) (v := .agg #[.int .i64 id, .int .i64 yin, .int .i64 yout, .string yreg, .int .u8 ykind, .string ysp, .slice ya yrows.length ycp]) rfl (by kernel_rfl) (by kernel_rfl) (by kernel_rfl) (fun _ _ _ h => h) (.inl ⟨by rfl, fun w' h => by have h2 : Aside w5 g w' := h; go_simp⟩) (by assumption) ?_
        try simp only [Act.put, List.getElem_toArray, List.getElem_cons_zero, List.getElem_cons_succ, List.setIfInBounds_toArray, List.set_cons_zero, List.set_cons_succ, Array.toArray_toList]
        refine wpAnyH_ready (rs := [4]) (by kernel_rfl) (by simp) ?_
        refine AllReadyH.cons rfl (fun K1 hK1 => ?_) AllReadyH.nil
        go_simp
        refine hK1.out _ _ hd5 (fun hHeld3 => ?_)
        clear hK1
        try simp only [Act.put, List.getElem_toArray, List.getElem_cons_zero, List.getElem_cons_succ, List.setIfInBounds_toArray, List.set_cons_zero, List.set_cons_succ, Array.toArray_toList]
        refine wpAnyH_ready (rs := [8]) (by kernel_rfl) (by simp) ?_
        refine AllReadyH.cons rfl (fun K2 hK2 => ?_) AllReadyH.nil
        go_simp
        refine (HCHG.out (⟨id, yin, yout, yreg, ykind, ysp, ya, ycp, yrows⟩ : Ev) w5.drew (HB.out _ HB5.out.drew) (by first | rfl | trivial)).mono ?_
        rintro e w6 ⟨b6, q6, rfl, hS6, hf6, hb6⟩
        have h6 : Aside w5 g w6 := fun b h1 _ => hb6.block b h1
        have hb06 := HT0.out _ _ HB5.out.drew hb6
        have HSO := Lib.hid (HSORT.out (⟨id, yin, yout, yreg, ykind, ysp, ya, ycp, yrows⟩ : Ev) b6 q6 w6 (HB.out _ hb06) hS6 (Ev.keeps w8 w6 _ (H85.out.trans (hb6.mono H85.out.size)) HYL.out) HY0.out)
        have hs56 : w5.heap.size ≤ w6.heap.size := hb6.size
        have HB6 := Lib.hid hb6
        have H06 := Lib.hid hb06
        clear hS6 hf6 hb6 hb06 HSORT HCHG
        go_wp2_with fail
        refine hK2.out _ _ h6 (fun hHeld4 => ?_)
        clear hK2
        try simp only [Act.put, List.getElem_toArray, List.getElem_cons_zero, List.getElem_cons_succ, List.setIfInBounds_toArray, List.set_cons_zero, List.set_cons_succ, Array.toArray_toList]
        refine wpAnyH_ready (rs := [9]) (by kernel_rfl) (by simp) ?_
        refine AllReadyH.cons rfl (fun K3 hK3 => ?_) AllReadyH.nil
        go_simp
        refine HSO.out.mono ?_
        rintro e w7 ⟨v7, ys, rfl, hG, hp, hs⟩
        have hb7 := hG.2.2
        have h7 : Aside w5 g w7 := fun b h1 _ => (hb7.block b (by omega)).trans (HB6.out.block b h1)
        have hb07 := HT0.out _ _ H06.out hb7
        have bg6 := BG.out w7 hb07
        have zg6 := ZG.out w7 hb07
        obtain ⟨a7, c7, rfl, _⟩ := GrowL.slice (k := 7) (enc := Ev.enc) (fun _ => rfl) hG
        have HFF := Lib.hid (fun w2 hw2 => HFIN.out (⟨id, yin, yout, yreg, ykind, ysp, ya, ycp, yrows⟩ : Ev) ys (.slice a7 ys.length c7) w7 w2 (by first | rfl | trivial) HY0.out w6.heap.size (by omega) w6 hG (HB.out _ hb07) hp hs hw2)
        have H7 := Lib.hid (show Aside w5 g (w7.setCell ⟨g, 6, none⟩ (.slice a7 ys.length c7)) from fun b h1 h2 => (Below.heap_setCell _ _ _ b h2).trans ((hb7.block b (by omega)).trans (HB6.out.block b h1)))
        clear hG hp hs hb7 bg5 HFIN hb07 HSO
        go_wp2_with fail
        refine hK3.out _ _ h7 (fun hHeld5 => ?_)
        clear hK3
        try simp only [Act.put, List.getElem_toArray, List.getElem_cons_zero, List.getElem_cons_succ, List.setIfInBounds_toArray, List.set_cons_zero, List.set_cons_succ, Array.toArray_toList]
        refine wpAnyH_take (i := 10) (v := .pointer (some ⟨g, 0, none⟩)) rfl (by kernel_rfl) (by kernel_rfl) (by kernel_rfl) (fun _ _ _ h => h) (.inl ⟨by rfl, fun w' h => by have h2 : Aside w5 g w' := h; go_simp⟩) (by assumption) ?_
        try simp only [Act.put, List.getElem_toArray, List.getElem_cons_zero, List.getElem_cons_succ, List.setIfInBounds_toArray, List.set_cons_zero, List.set_cons_succ, Array.toArray_toList]
        refine wpAnyH_take (i := 11) (v := .pointer (some ⟨g, 6, none⟩)) rfl (by kernel_rfl) (by kernel_rfl) (by kernel_rfl) (fun _ _ _ h => h) (.inl ⟨by rfl, fun w' h => by have h2 : Aside w5 g w' := h; go_simp⟩) (by assumption) ?_
        try simp only [Act.put, List.getElem_toArray, List.getElem_cons_zero, List.getElem_cons_succ, List.setIfInBounds_toArray, List.set_cons_zero, List.set_cons_succ, Array.toArray_toList]
        refine wpAnyH_ready (rs := [12]) (by kernel_rfl) (by simp) ?_
        refine AllReadyH.cons rfl (fun K4 hK4 => ?_) AllReadyH.nil
        go_simp
        refine hK4.out _ _ H7.out (fun hHeld6 => ?_)
        clear hK4
        try simp only [Act.put, List.getElem_toArray, List.getElem_cons_zero, List.getElem_cons_succ, List.setIfInBounds_toArray, List.set_cons_zero, List.set_cons_succ, Array.toArray_toList]
        refine wpAnyH_done (by kernel_rfl) ?_ _
        go_wp2_with fail
        exact HFF.out _ rfl
      · have hne : (ERR != 0) = true := by simpa using h0
        have HFE := Lib.hid (HERR.out _ (HB.out _ (HT0.out _ _ HCW.out hw4)) h0)
        clear HERR HFIN HCHG HEQ HSORT
        go_wp2_with fail
        exact HFE.out
end Go.Proofs.YtnlnmbcaongehaaGreatDoor
namespace Go.Proofs.YtnlnmbcaongehaaGreatDoor
open Go.RowKit
def sTOP : ByteArray := ⟨#[84, 79, 80]⟩
def sA : ByteArray := ⟨#[65]⟩
def sNo : ByteArray := ⟨#[]⟩
def awReg : Reg := ⟨sTOP, 1, 2, 0, 32, 1, false⟩
/-- The one row of the example's events; its memory is open. -/
def awRows (ua : Option Addr) (uc : Nat) : List Row := [⟨ua, uc, [⟨sA, 0, false, false, sNo⟩]⟩]
def awEvA (ra : Option Addr) (rc : Nat) (ua : Option Addr) (uc : Nat) : Ev := ⟨1, 0, 9, sTOP, 1, sNo, ra, rc, awRows ua uc⟩
def awEvB (ra : Option Addr) (rc : Nat) (ua : Option Addr) (uc : Nat) : Ev := ⟨1, 1, 9, sNo, 1, sNo, ra, rc, awRows ua uc⟩
def awA (pa : Option Addr) (pc : Nat) (ea : Option Addr) (ec : Nat) (ra : Option Addr) (rc : Nat) (ua : Option Addr) (uc : Nat) (ca : Option Addr) (cc : Nat) : Doc := ⟨sNo, sNo, 3, false, 1, pa, pc, [awReg], ea, ec, [awEvA ra rc ua uc], ca, cc, []⟩
def awB (pa : Option Addr) (pc : Nat) (ea : Option Addr) (ec : Nat) (ra : Option Addr) (rc : Nat) (ua : Option Addr) (uc : Nat) (ca : Option Addr) (cc : Nat) : Doc := ⟨sNo, sNo, 3, false, 1, pa, pc, [], ea, ec, [awEvB ra rc ua uc], ca, cc, []⟩
variable (pa ea ra ua ca qa fa sa ta da : Option Addr) (pc ec rc uc cc qc fc sc tc dc : Nat)
theorem awA_err : docErr (awA pa pc ea ec ra rc ua uc ca cc) = 0 := by kernel_rfl
theorem awB_err : docErr (awB pa pc ea ec ra rc ua uc ca cc) = 0 := by kernel_rfl
/-- The two changes. -/
def awC1 : ChgC := ⟨2, 0, sTOP, false, true, zeroHd, zeroHd, awReg, zeroReg, zeroEvC, zeroEvC, zeroCm, zeroCm⟩
def awC2 : ChgC := ⟨3, 1, sNo, false, false, zeroHd, zeroHd, zeroReg, zeroReg, ⟨1, 0, 9, sTOP, 1, sNo, [[⟨sA, 0, false, false, sNo⟩]]⟩, ⟨1, 1, 9, sNo, 1, sNo, [[⟨sA, 0, false, false, sNo⟩]]⟩, zeroCm, zeroCm⟩
theorem aw_chgs : chgs (awA pa pc ea ec ra rc ua uc ca cc) (awB qa qc fa fc sa sc ta tc da dc) = [awC1, awC2] := by
  have h1 : regKeys (awA pa pc ea ec ra rc ua uc ca cc) (awB qa qc fa fc sa sc ta tc da dc) = [sTOP] := by
    rw [← regKeys_ref]
    kernel_rfl
  have h2 : evKeys (awA pa pc ea ec ra rc ua uc ca cc) (awB qa qc fa fc sa sc ta tc da dc) = [1] := by
    rw [← evKeys_ref]
    kernel_rfl
  have h3 : cmKeys (awA pa pc ea ec ra rc ua uc ca cc) (awB qa qc fa fc sa sc ta tc da dc) = [] := by
    rw [← cmKeys_ref]
    kernel_rfl
  have h4 : chgsOf (awA pa pc ea ec ra rc ua uc ca cc) (awB qa qc fa fc sa sc ta tc da dc) [sTOP] [1] [] = [awC1, awC2] := by kernel_rfl
  unfold chgs
  rw [h1, h2, h3]
  exact h4
theorem aw_diff : diffList (awA pa pc ea ec ra rc ua uc ca cc) (awB qa qc fa fc sa sc ta tc da dc) = [awC1, awC2] ∧ diffErr (awA pa pc ea ec ra rc ua uc ca cc) (awB qa qc fa fc sa sc ta tc da dc) = 0 := by
  unfold diffList diffErr
  rw [awA_err, awB_err]
  exact ⟨aw_chgs .., rfl⟩
/-- The document behind both changes is in order, whatever its memory. -/
theorem awB_like (d : Doc) (h : d.c = (awB pa pc ea ec ra rc ua uc ca cc).c) : docErr d = 0 := by
  obtain ⟨title, lang, rate, drop, last, ra', rc', regs, ea', ec', evs, ca', cc', cms⟩ := d
  simp only [Doc.c, Doc.hd, awB, DocC.mk.injEq, Hd.mk.injEq] at h
  obtain ⟨⟨rfl, rfl, rfl, rfl, rfl⟩, rfl, he, rfl⟩ := h
  match evs, he with
  | [], he => simp at he
  | [⟨id, inn, out, reg, kind, sp, ya, yc, rows⟩], he =>
    simp only [List.map_cons, List.map_nil, Ev.c, awEvB, awRows, List.cons.injEq, EvC.mk.injEq, and_true] at he
    obtain ⟨rfl, rfl, rfl, rfl, rfl, rfl, hr⟩ := he
    match rows, hr with
    | [], hr => simp at hr
    | [⟨za, zc, runs⟩], hr =>
      simp only [List.map_cons, List.map_nil, List.cons.injEq, and_true] at hr
      subst hr
      exact awB_err (pa := ra') (pc := rc') (ea := ea') (ec := ec') (ra := ya) (rc := yc) (ua := za) (uc := zc) (ca := ca') (cc := cc')
    | _ :: _ :: _, hr => simp at hr
  | _ :: _ :: _, he => simp at he
/-- The first change's fields. -/
theorem awC1_fields {x : Chg} (h : x.c = awC1) : x.sec = 2 ∧ x.name = sTOP ∧ x.added = false ∧ x.gone = true ∧ x.rg = awReg ∧ x.nr = zeroReg := by
  simp only [Chg.c, awC1, ChgC.mk.injEq] at h
  exact ⟨h.1, h.2.2.1, h.2.2.2.1, h.2.2.2.2.1, h.2.2.2.2.2.2.2.1, h.2.2.2.2.2.2.2.2.1⟩
theorem aw_reg {d : Doc} {x : Chg} (hd : d.regs = [awReg]) (h : x.c = awC1) : apRegErr d.regs x = 0 ∧ applyReg d x = ⟨d.hd, [], d.evs.map Ev.c, d.cms⟩ := by
  obtain ⟨h1, h2, h3, h4, h5, h6⟩ := awC1_fields h
  obtain ⟨sec, id, name, ad, gn, oh, nh, rg, nr, oe, ne, oc, nc⟩ := x
  simp only at h1 h2 h3 h4 h5 h6
  subst h1 h2 h3 h4 h5 h6
  have e0 : apRegErr [awReg] ⟨2, id, sTOP, false, true, oh, nh, awReg, zeroReg, oe, ne, oc, nc⟩ = 0 := by kernel_rfl
  rw [hd]
  refine ⟨e0, ?_⟩
  have e1 : changedL false true (apRegIdx [awReg] ⟨2, id, sTOP, false, true, oh, nh, awReg, zeroReg, oe, ne, oc, nc⟩) (fun y : Reg => Op.bytesLess y.name.toList (newReg ⟨2, id, sTOP, false, true, oh, nh, awReg, zeroReg, oe, ne, oc, nc⟩).name.toList) [awReg] (newReg ⟨2, id, sTOP, false, true, oh, nh, awReg, zeroReg, oe, ne, oc, nc⟩) = [] := by kernel_rfl
  unfold applyReg
  rw [hd, if_pos e0]
  exact congrArg (fun l => (⟨d.hd, l, d.evs.map Ev.c, d.cms⟩ : DocC)) e1
/-- One event with contents given. -/
theorem one_ev {evs : List Ev} {c : EvC} (h : evs.map Ev.c = [c]) : ∃ e, evs = [e] ∧ e.c = c := by
  match evs, h with
  | [], h => simp at h
  | [e], h => exact ⟨e, rfl, by simpa using h⟩
  | _ :: _ :: _, h => simp at h
theorem aw_ev {evs : List Ev} {x : Chg} (hd : evs.map Ev.c = [(awEvA ra rc ua uc).c]) (h : x.c = awC2) : x.sec = 3 ∧ x.added = false ∧ x.gone = false ∧ apEvErr evs x = 0 ∧ (∀ y, apEvs evs x y = [y]) ∧ newEvC x = (awEvB ra rc ua uc).c := by
  obtain ⟨e, rfl, he⟩ := one_ev hd
  simp only [Chg.c, awC2, ChgC.mk.injEq] at h
  obtain ⟨h1, h2, h3, h4, h5, _, _, _, _, h10, h11, _, _⟩ := h
  obtain ⟨sec, id, name, ad, gn, oh, nh, rg, nr, oe, ne, oc, nc⟩ := x
  simp only at h1 h2 h3 h4 h5 h10 h11
  subst h1 h2 h3 h4 h5
  have hee : e.c = oe.c := he.trans h10.symm
  have hid : e.id = 1 := congrArg EvC.id he
  have hf : first (fun z : Ev => z.id == 1) [e] = some (e, 0) := by
    unfold first firstFrom
    rw [if_pos (by rw [hid]; rfl)]
  refine ⟨rfl, rfl, rfl, ?_, fun y => ?_, ?_⟩
  · unfold apEvErr
    simp only
    rw [hf]
    show allowedErr false true (evEq e oe) = 0
    rw [evEq_c e oe hee]
    rfl
  · unfold apEvs apEvIdx
    simp only
    rw [hf]
    rfl
  · unfold newEvC
    have i1 := congrArg EvC.inn h11
    have i2 := congrArg EvC.out h11
    have i3 := congrArg EvC.region h11
    have i4 := congrArg EvC.kind h11
    have i5 := congrArg EvC.speaker h11
    have i6 := congrArg EvC.rows h11
    simp only [Ev.c] at i1 i2 i3 i4 i5 i6
    simp only [i1, i2, i3, i4, i5, i6]
    rfl
end Go.Proofs.YtnlnmbcaongehaaGreatDoor
namespace Go.Proofs.YtnlnmbcaongehaaGreatDoor
open Go.RowKit
theorem decimal_calls (n : Int) (h0 : -9223372036854775808 ≤ n) (h1 : n ≤ 9223372036854775807) (w : World) (htab : Lib.TabIs Tryz.prog w "internal/strconv.uint64pow10" .u64 Lib.pow10Tab) :
    Calls Tryz.prog 66 #[.int .i64 n] w fun e w' => e = .returned (.string ⟨(Lib.itoa n).toArray⟩) ∧ Below w.heap.size w w' := by
  have HC := Lib.hid (Tryz.strconv_FormatInt_10 n h0 h1 w htab)
  generalize (Lib.itoa n).toArray = S at *
  clear htab
  go_enter Tryz.func66, Tryz.ntmps66
  go_wp2_with fail
  refine HC.out.mono ?_
  rintro e w1 ⟨rfl, k, os, rfl⟩
  have hb : Below w.heap.size w (Sort.grow (w.drewN k) os) := below_grow (below_drewN (Below.refl _ _) k) (Nat.le_refl _) os
  clear HC
  generalize Sort.grow (w.drewN k) os = w1 at *
  go_wp2_with fail
  go_ret
  exact ⟨rfl, hb⟩
end Go.Proofs.YtnlnmbcaongehaaGreatDoor
namespace Go.Proofs.YtnlnmbcaongehaaGreatDoor
open Go.RowKit
theorem one_all {l : List Value} (h : ∀ v ∈ l, v.oneCell' = true) : l.toArray.all (·.oneCell') = true :=
  Array.all_eq_true_iff_forall_mem.2 (fun v hv => h v (by simpa using hv))
theorem range_row {w : World} {g : Nat} {l : List Value} {t : TypeId} (h : w.heap[g]? = some (.cells l.toArray t (0, 0))) : w.rangeAt g 0 l := fun j v hv => by
  rw [Nat.zero_add, cell_of_row _ _ j _ t (0, 0) h]
  simpa using hv
theorem alloc_at {w : World} {b : Nat} {o o' : Obj} (h : w.heap[b]? = some o) : (w.alloc o').heap[b]? = some o := by
  rw [Below.heap_alloc _ _ _ (Array.getElem?_eq_some_iff.1 h).1]
  exact h
theorem alloc_last' {w : World} {b : Nat} (o : Obj) (h : b = w.heap.size) : (w.alloc o).heap[b]? = some o := by
  subst h
  exact heap_alloc_last w o
/-- A field's name, and whether it differs. -/
structure Fld where
  name : ByteArray
  differs : Bool
def Fld.enc (f : Fld) : List Value := [.string f.name, .bool f.differs]
def wTITLE : ByteArray := ⟨#[84, 73, 84, 76, 69]⟩
def wLANG : ByteArray := ⟨#[76, 65, 78, 71]⟩
def wRATE : ByteArray := ⟨#[82, 65, 84, 69]⟩
def wLAST : ByteArray := ⟨#[76, 65, 83, 84]⟩
def wPLACE : ByteArray := ⟨#[80, 76, 65, 67, 69]⟩
def wALIGN : ByteArray := ⟨#[65, 76, 73, 71, 78]⟩
def wANCHOR : ByteArray := ⟨#[65, 78, 67, 72, 79, 82]⟩
def wSPAN : ByteArray := ⟨#[83, 80, 65, 78]⟩
def wREGION : ByteArray := ⟨#[82, 69, 71, 73, 79, 78]⟩
def wKIND : ByteArray := ⟨#[75, 73, 78, 68]⟩
def wSPEAKER : ByteArray := ⟨#[83, 80, 69, 65, 75, 69, 82]⟩
def wROWS : ByteArray := ⟨#[82, 79, 87, 83]⟩
def wAUTHOR : ByteArray := ⟨#[65, 85, 84, 72, 79, 82]⟩
def wTEXT : ByteArray := ⟨#[84, 69, 88, 84]⟩
def wDONE : ByteArray := ⟨#[68, 79, 78, 69]⟩
def wHEAD : ByteArray := ⟨#[72, 69, 65, 68]⟩
def wEVENT : ByteArray := ⟨#[69, 86, 69, 78, 84]⟩
def wCOMMENT : ByteArray := ⟨#[67, 79, 77, 77, 69, 78, 84]⟩
def wASK : ByteArray := ⟨#[63]⟩
def wADDED : ByteArray := ⟨#[65, 68, 68, 69, 68]⟩
def wGONE : ByteArray := ⟨#[71, 79, 78, 69]⟩
/-- The fields of a change's section. -/
def fieldsOf (c : Chg) : List Fld :=
  if c.sec = 1 then [⟨wTITLE, !(c.oh.title.toList == c.nh.title.toList)⟩, ⟨wLANG, !(c.oh.lang.toList == c.nh.lang.toList)⟩, ⟨wRATE, !(c.oh.rate == c.nh.rate) || !(c.oh.drop == c.nh.drop)⟩, ⟨wLAST, !(c.oh.last == c.nh.last)⟩]
  else if c.sec = 2 then [⟨wPLACE, !(c.rg.top == c.nr.top) || !(c.rg.height == c.nr.height) || !(c.rg.left == c.nr.left) || !(c.rg.width == c.nr.width)⟩, ⟨wALIGN, !(c.rg.align == c.nr.align)⟩, ⟨wANCHOR, !(c.rg.bottom == c.nr.bottom)⟩]
  else if c.sec = 3 then [⟨wSPAN, !(c.oe.inn == c.ne.inn && c.oe.out == c.ne.out)⟩, ⟨wREGION, !(c.oe.region.toList == c.ne.region.toList)⟩, ⟨wKIND, !(c.oe.kind == c.ne.kind)⟩, ⟨wSPEAKER, !(c.oe.speaker.toList == c.ne.speaker.toList)⟩, ⟨wROWS, !rowsEq c.oe.rows c.ne.rows⟩]
  else if c.sec = 4 then [⟨wANCHOR, !(c.oc.ev == c.nc.ev) || !(c.oc.frm == c.nc.frm) || !(c.oc.til == c.nc.til) || !(c.oc.lost == c.nc.lost)⟩, ⟨wAUTHOR, !(c.oc.author.toList == c.nc.author.toList)⟩, ⟨wTEXT, !(c.oc.text.toList == c.nc.text.toList)⟩, ⟨wDONE, !(c.oc.done == c.nc.done)⟩]
  else []
def namesOf (fs : List Fld) : List ByteArray := (fs.filter (·.differs)).map Fld.name
/-- The names of the fields in which a change's sides differ. -/
def fieldNames (c : Chg) : List ByteArray := if (c.added || c.gone) = true then [] else namesOf (fieldsOf c)
def decB (n : Int) : ByteArray := ⟨(Lib.itoa n).toArray⟩
/-- The words of a change's place. -/
def placeWords (c : Chg) : List ByteArray :=
  if c.sec = 1 then [wHEAD] else if c.sec = 2 then [wREGION, c.name] else if c.sec = 3 then [wEVENT, decB c.id] else if c.sec = 4 then [wCOMMENT, decB c.id] else [wASK]
def lineWords (c : Chg) : List ByteArray := placeWords c ++ (if c.added = true then [wADDED] else if c.gone = true then [wGONE] else fieldNames c)
/-- A change's line. -/
def lineB (c : Chg) : List UInt8 := Lib.join ((lineWords c).map (·.data.toList)) [32] ++ [10]
def textB (l : List Chg) : List UInt8 := l.flatMap lineB
theorem namesOf_le (fs : List Fld) : (namesOf fs).length ≤ fs.length := by
  unfold namesOf
  rw [List.length_map]
  exact List.length_filter_le _ _
theorem fieldsOf_le (c : Chg) : (fieldsOf c).length ≤ 5 := by
  unfold fieldsOf
  split
  · exact (show (4 : Nat) ≤ 5 by decide)
  · split
    · exact (show (3 : Nat) ≤ 5 by decide)
    · split
      · exact (show (5 : Nat) ≤ 5 by decide)
      · split
        · exact (show (4 : Nat) ≤ 5 by decide)
        · exact (show (0 : Nat) ≤ 5 by decide)
theorem aw_line1 {x : Chg} (h : x.c = awC1) : lineB x = [82, 69, 71, 73, 79, 78, 32, 84, 79, 80, 32, 71, 79, 78, 69, 10] := by
  obtain ⟨h1, h2, h3, h4, _, _⟩ := awC1_fields h
  obtain ⟨sec, id, name, ad, gn, oh, nh, rg, nr, oe, ne, oc, nc⟩ := x
  simp only at h1 h2 h3 h4
  subst h1 h2 h3 h4
  rfl
theorem aw_names2 {x : Chg} (h : x.c = awC2) : fieldNames x = [wSPAN, wREGION] := by
  simp only [Chg.c, awC2, ChgC.mk.injEq] at h
  obtain ⟨h1, h2, h3, h4, h5, _, _, _, _, h10, h11, _, _⟩ := h
  obtain ⟨sec, id, name, ad, gn, oh, nh, rg, nr, oe, ne, oc, nc⟩ := x
  simp only at h1 h2 h3 h4 h5 h10 h11
  subst h1 h2 h3 h4 h5
  obtain ⟨oid, oin, oout, oreg, okind, osp, oa, ocap, orows⟩ := oe
  obtain ⟨nid, nin, nout, nreg, nkind, nsp, na, ncap, nrows⟩ := ne
  simp only [Ev.c, EvC.mk.injEq] at h10 h11
  obtain ⟨rfl, rfl, rfl, rfl, rfl, rfl, h10⟩ := h10
  obtain ⟨rfl, rfl, rfl, rfl, rfl, rfl, h11⟩ := h11
  have hr : rowsEq orows nrows = true := rowsEq_map _ _ (h10.trans h11.symm)
  unfold fieldNames fieldsOf
  simp only [hr]
  refine Eq.trans ?_ (Eq.refl _)
  kernel_rfl
theorem aw_line2 {x : Chg} (h : x.c = awC2) : lineB x = [69, 86, 69, 78, 84, 32, 49, 32, 83, 80, 65, 78, 32, 82, 69, 71, 73, 79, 78, 10] := by
  have hn := aw_names2 h
  simp only [Chg.c, awC2, ChgC.mk.injEq] at h
  obtain ⟨h1, h2, h3, h4, h5, _⟩ := h
  have h3' : ¬ x.added = true := by rw [h4]; decide
  have h5' : ¬ x.gone = true := by rw [h5]; decide
  have hw : lineWords x = [wEVENT, decB 1, wSPAN, wREGION] := by
    unfold lineWords placeWords
    rw [if_neg h3', if_neg h5', hn, h1, h2]
    rfl
  unfold lineB
  rw [hw]
  refine Eq.trans ?_ (Eq.refl _)
  kernel_rfl
def awBytes : List UInt8 := [82, 69, 71, 73, 79, 78, 32, 84, 79, 80, 32, 71, 79, 78, 69, 10, 69, 86, 69, 78, 84, 32, 49, 32, 83, 80, 65, 78, 32, 82, 69, 71, 73, 79, 78, 10]
theorem aw_text {xs : List Chg} (h : xs.map Chg.c = [awC1, awC2]) : textB xs = awBytes := by
  match xs, h with
  | [], h => simp at h
  | [x], h => simp at h
  | [x, y], h =>
    simp only [List.map_cons, List.map_nil, List.cons.injEq, and_true] at h
    unfold textB
    rw [List.flatMap_cons, List.flatMap_cons, List.flatMap_nil, aw_line1 h.1, aw_line2 h.2]
    rfl
  | x :: y :: z :: l, h => simp at h
end Go.Proofs.YtnlnmbcaongehaaGreatDoor
