/- The reference's Clone of rows and events, Same of events, and event. (printed by gen_refev.py) -/
import Derived.Test.YtnlnmbcaongehaaGreatDoorBase09
import Derived.Test.YtnlnmbcaongehaaGreatDoorL05
import Derived.Test.YtnlnmbcaongehaaGreatDoorBase02
import Derived.Test.YtnlnmbcaongehaaGreatDoorBase01
import Derived.Test.YtnlnmbcaongehaaGreatDoorBase00
set_option linter.unusedVariables false
set_option linter.unusedSimpArgs false
namespace Go.Proofs.YtnlnmbcaongehaaGreatDoor
open Go.RowKit
set_option maxRecDepth 100000 in
set_option maxHeartbeats 3200000 in
theorem refEvSame_calls (x y : Ev) (w : World) (h : x.lies w) (h' : y.lies w) (hf : ∀ r ∈ x.rows, r.runs.length ≤ 4000000) (hl : x.rows.length ≤ 4000000) :
    Calls Tryz.prog 50 #[.agg x.enc.toArray, .agg y.enc.toArray] w fun e w' => e = .returned (.bool (evEq x y)) ∧ Below w.heap.size w w' := by
  have hb2 : ∀ o o', Below w.heap.size w ((w.alloc o).alloc o') := fun o o' => ((Below.refl _ _).alloc (Nat.le_refl _) _).alloc (by simp) _
  have HC := Lib.hid (fun o o' => refRows_calls x.at_ y.at_ x.cap y.cap x.rows y.rows ((w.alloc o).alloc o') (RowsAt.later h (hb2 o o')) (RowsAt.later h' (hb2 o o')) hf hl)
  have HB := Lib.hid (fun o o' w1 (h1 : Below ((w.alloc o).alloc o').heap.size ((w.alloc o).alloc o') w1) => (hb2 o o').trans (h1.mono (by simp; omega)))
  have HB0 := Lib.hid hb2
  have hE : evEq x y = (x.id == y.id && (x.inn == y.inn && x.out == y.out) && x.region.toList == y.region.toList && x.kind == y.kind && x.speaker.toList == y.speaker.toList && rowsEq x.rows y.rows) := rfl
  generalize hQ : (fun (e : Ending) (w' : World) => e = .returned (.bool (evEq x y)) ∧ Below w.heap.size w w') = Q
  generalize rowsEq x.rows y.rows = G at HC hE
  obtain ⟨id, inn, out, reg, kind, sp, xa, xc, xr⟩ := x
  obtain ⟨id', inn', out', reg', kind', sp', ya, yc, yr⟩ := y
  simp only [Ev.enc] at *
  have hsp := run_spanEq inn out inn' out'
  rcases Bool.eq_false_or_eq_true (id == id') with h1 | h1
  rotate_left
  · rw [h1] at hE
    have HQ := Lib.hid (fun w' (hb : Below w.heap.size w w') => show Q (.returned (.bool false)) w' from hQ ▸ ⟨by rw [hE]; rfl, hb⟩)
    clear hQ hE hb2 h h' hf hsp
    go_enter Tryz.func50, Tryz.ntmps50
    go_wp2_with fail
    exact HQ.out _ (HB0.out _ _)
  rcases Bool.eq_false_or_eq_true (inn == inn' && out == out') with h2 | h2
  rotate_left
  · rw [h1, h2] at hE
    rw [h2] at hsp
    have HQ := Lib.hid (fun w' (hb : Below w.heap.size w w') => show Q (.returned (.bool false)) w' from hQ ▸ ⟨by rw [hE]; rfl, hb⟩)
    clear hQ hE hb2 h h' hf h2
    go_enter Tryz.func50, Tryz.ntmps50
    go_wp2_with fail
    exact HQ.out _ (HB0.out _ _)
  rcases Bool.eq_false_or_eq_true (reg.toList == reg'.toList) with h3 | h3
  rotate_left
  · rw [h1, h2, h3] at hE
    rw [h2] at hsp
    have HQ := Lib.hid (fun w' (hb : Below w.heap.size w w') => show Q (.returned (.bool false)) w' from hQ ▸ ⟨by rw [hE]; rfl, hb⟩)
    clear hQ hE hb2 h h' hf h2
    go_enter Tryz.func50, Tryz.ntmps50
    go_wp2_with fail
    exact HQ.out _ (HB0.out _ _)
  rcases Bool.eq_false_or_eq_true (kind == kind') with h4 | h4
  rotate_left
  · rw [h1, h2, h3, h4] at hE
    rw [h2] at hsp
    have HQ := Lib.hid (fun w' (hb : Below w.heap.size w w') => show Q (.returned (.bool false)) w' from hQ ▸ ⟨by rw [hE]; rfl, hb⟩)
    clear hQ hE hb2 h h' hf h2
    go_enter Tryz.func50, Tryz.ntmps50
    go_wp2_with fail
    exact HQ.out _ (HB0.out _ _)
  rcases Bool.eq_false_or_eq_true (sp.toList == sp'.toList) with h5 | h5
  rotate_left
  · rw [h1, h2, h3, h4, h5] at hE
    rw [h2] at hsp
    have HQ := Lib.hid (fun w' (hb : Below w.heap.size w w') => show Q (.returned (.bool false)) w' from hQ ▸ ⟨by rw [hE]; rfl, hb⟩)
    clear hQ hE hb2 h h' hf h2
    go_enter Tryz.func50, Tryz.ntmps50
    go_wp2_with fail
    exact HQ.out _ (HB0.out _ _)
  rw [h1, h2, h3, h4, h5] at hE
  rw [h2] at hsp
  have HQ := Lib.hid (fun w' (hb : Below w.heap.size w w') => show Q (.returned (.bool G)) w' from hQ ▸ ⟨by rw [hE]; rfl, hb⟩)
  clear hQ hE hb2 h h' hf h2
  go_enter Tryz.func50, Tryz.ntmps50
  go_wp2_with fail
  refine (HC.out _ _).mono ?_
  rintro e w1 ⟨rfl, hb⟩
  have HBW := Lib.hid (HB.out _ _ _ hb)
  clear hb
  go_wp2_with fail
  exact HQ.out _ HBW.out
theorem CopyRel.form {rows : List Row} {w wr : World} {v : Value} {k : Nat} (h : CopyRel rows w v k wr) : ∃ a n c, v = .slice a n c := by
  obtain ⟨zs, h1, h2, h3⟩ := h
  obtain ⟨a, c, rfl, hS⟩ := GrowL.slice (k := 1) (enc := Row.enc) (fun _ => rfl) h3
  exact ⟨_, _, _, rfl⟩
set_option maxRecDepth 100000 in
set_option maxHeartbeats 3200000 in
theorem refStyleClone_calls (a : Option Addr) (cap : Nat) (rows : List Row) (w : World) (h : RowsAt w a rows) (hf : ∀ r ∈ rows, r.runs.length ≤ 4000000) (hl : rows.length ≤ 4000000) :
    Calls Tryz.prog 120 #[.slice a rows.length cap] w (RowsCopy rows w) := by
  have HR := Lib.hid (fun (w' : World) (hb : Below w.heap.size w w') => RowsAt.later h hb)
  have HD := Lib.hid (fun (wr : World) (v : Value) (h : CopyRel rows w v rows.length wr) => h.done)
  have HF := Lib.hid hf
  have H0 := Lib.hid (show CopyRel rows w (.slice none 0 0) 0 w from ⟨[], rfl, rfl, GrowL.start (Below.refl _ _)⟩)
  obtain ⟨j0, hj, hy0, hy1, hy2⟩ := info_parts Tryz.info75
  have JI := Lib.hid hj; have J0 := Lib.hid hy0; have J1 := Lib.hid hy1; have J2 := Lib.hid hy2
  obtain ⟨j0', hj', hy0', hy1', hy2'⟩ := info_parts Tryz.info78
  have KI := Lib.hid hj'; have K0 := Lib.hid hy0'; have K1 := Lib.hid hy1'; have K2 := Lib.hid hy2'
  clear h hf hj hy0 hy1 hy2 hj' hy0' hy1' hy2'
  generalize RowsCopy rows w = Q at *
  go_enter Tryz.func120, Tryz.ntmps120
  go_wp2_with fail
  go_loopw [3, 8] (fun v i wr => ∃ k : Nat, k ≤ rows.length ∧ i = .int .i64 k ∧ CopyRel rows w v k wr) (fun _ i _ => rows.length - (intOf i).toNat)
  case atStart => exact ⟨0, by omega, rfl, H0.out⟩
  case round =>
    clear H0
    obtain ⟨k, hk, rfl, hrel⟩ := hrel
    obtain ⟨av, an, ac, rfl⟩ := hrel.form
    by_cases hlt : k < rows.length
    · have hbw : Below w.heap.size w wr := by obtain ⟨_, _, _, h⟩ := hrel; exact h.2.2
      obtain ⟨b, off, r, rfl, hbl, hxk, hc, hok⟩ := (HR.out _ hbw).at_ hlt
      have d0 := hc 0 _ rfl
      simp only [Nat.add_zero, Nat.mul_one] at d0
      have HFR := Lib.hid (HF.out r (List.mem_of_getElem? hxk))
      have HOK := Lib.hid (fun (o o' : Obj) => Row.keeps _ _ _ (((Below.refl wr.heap.size wr).alloc (Nat.le_refl _) o).alloc (by simp) o') hok)
      have HP := Lib.hid (fun (w1 : World) (a2 : Option Addr) (c2 : Nat) (hb : Below wr.heap.size wr w1) (hS : w1.ownsRow (wr.heap.size + 1) 75 5 (.slice a2 r.runs.length c2) r.runs.length (r.runs.flatMap Run.enc)) => CopyRel.push hrel hxk hb hS)
      have hln := HFR.out
      obtain ⟨ra, rc, rr⟩ := r
      simp only at HFR HOK HP hln
      have hws := hbw.size
      clear hc hok hrel hbw hxk
      go_wp2_with (at_builtin; refine wpList_append_slice (enc := Run.enc) (Ok := Flat) _ rfl (.tmp 13) (.tmp 15) 76 rfl (wr.heap.size + 1) 75 j0 _ 5 40 Tryz.underlying76 JI.out J0.out J1.out J2.out rfl (by decide) (fun _ => rfl) Run.one _ 0 [] rfl ?hrow ra rc rr rfl ?hsl ?h63 ?hb ?hbase ?_)
      case hrow =>
        have := World.ownsRow_made (base := wr.heap.size + 1) (e := 75) (size := 5) (wr.alloc (.cells #[.slice ra rr.length rc] 78)) #[] 0 (by simp) (Nat.zero_le _) (by simp)
        rw [World.size_alloc] at this
        exact this
      case hsl => exact HOK.out _ _
      case h63 => unfold maxLen; omega
      case hb => omega
      try (case hbase => simp)
      intro v1 w1 ho hg _
      have hb1 : Below wr.heap.size wr w1 := (((Below.refl _ _).alloc (Nat.le_refl _) _).alloc (by simp) _).grown hg (by simp; omega) (fun j hj => by simp [Value.ownBlock] at hj; omega)
      obtain ⟨a2, c2, rfl⟩ : ∃ a2 c2, v1 = .slice a2 rr.length c2 := by
        rcases ho.2 with ⟨rfl, h0⟩ | ⟨g, cap, _, rfl, _⟩
        · exact ⟨none, 0, by rw [h0]⟩
        · exact ⟨_, _, rfl⟩
      obtain ⟨zs, hzl, hO, hfin⟩ := HP.out w1 a2 c2 hb1 ho
      have HFIN := Lib.hid hfin
      have hs1 : w.heap.size ≤ w1.heap.size := Nat.le_trans hws hb1.size
      clear ho hg hfin hb1 HP HOK d0 hzl
      generalize zs.flatMap Row.enc = zf at *
      go_wp2_with (at_builtin; refine wpList_append_at _ _ rfl (.tmp 12) (.tmp 18) 48 rfl w.heap.size 78 j0' _ 1 24 Tryz.underlying48 KI.out K0.out K1.out K2.out rfl (by decide) _ _ _ rfl hO _ rfl rfl ?hsz2 ?h12 ?h632 ?hb2 ?hbase2 ?_)
      case hsz2 => rfl
      case h12 => first | (intro u hu; simp at hu; subst hu; rfl) | rfl
      case h632 => unfold maxLen; omega
      case hb2 => omega
      try (case hbase2 => omega)
      intro v2 w2 hown hgrow hat2
      have R := Lib.hid (HFIN.out v2 w2 hown hgrow hat2)
      clear hown hgrow hat2 HFIN hO
      go_wp2_with fail
      go_roundw
      case rel => exact ⟨k + 1, by omega, by go_num, R.out⟩
      case measure => simp [intOf]; omega
    · obtain rfl : k = rows.length := by omega
      have HN := Lib.hid hrel
      clear hrel
      go_wp2_with fail
      exact HD.out _ _ HN.out
set_option maxRecDepth 100000 in
set_option maxHeartbeats 3200000 in
theorem refEvClone_calls (x : Ev) (w : World) (h : x.lies w) (hf : ∀ r ∈ x.rows, r.runs.length ≤ 4000000) (hl : x.rows.length ≤ 4000000) :
    Calls Tryz.prog 65 #[.agg x.enc.toArray] w (EvCopy x.c w) := by
  generalize hcs : x.enc.toArray = cs
  have HC := Lib.hid (fun (o : Obj) => refStyleClone_calls x.at_ x.cap x.rows ((w.alloc (.cells cs 50)).alloc o) (RowsAt.later h (((Below.refl _ _).alloc (Nat.le_refl _) _).alloc (by simp) _)) hf hl)
  have HQ := Lib.hid (fun (a : Option Addr) (c : Nat) (rows : List Row) (w' : World) (e : rows.map Row.runs = x.rows.map Row.runs) (h : RowsAt w' a rows) (hu : ∀ b, rowsUse a rows b → w.heap.size ≤ b) (hb : Below w.heap.size w w') => (show EvCopy x.c w (.returned (.agg #[.int .i64 x.id, .int .i64 x.inn, .int .i64 x.out, .string x.region, .int .u8 x.kind, .string x.speaker, .slice a rows.length c])) w' from
    ⟨⟨x.id, x.inn, x.out, x.region, x.kind, x.speaker, a, c, rows⟩, rfl, by simp only [Ev.c, e], h, hu, hb⟩))
  have HB := Lib.hid (fun (o o' : Obj) (w1 : World) (hb : Below ((w.alloc o).alloc o').heap.size ((w.alloc o).alloc o') w1) => (show Below w.heap.size w w1 from (((Below.refl _ _).alloc (Nat.le_refl _) _).alloc (by simp) _).trans (hb.mono (by simp; omega))))
  have HK := Lib.hid (fun (o : Array Value) (w1 : World) (hb : Below ((w.alloc (.cells cs 50)).alloc (.cells o 50)).heap.size ((w.alloc (.cells cs 50)).alloc (.cells o 50)) w1) => (show (w1.heap[w.heap.size]? = some (.cells cs 50 (0, 0)) ∧ w1.heap[w.heap.size + 1]? = some (.cells o 50 (0, 0))) by
    refine ⟨?_, ?_⟩
    · rw [hb.block _ (by simp; omega), Below.heap_alloc _ _ _ (by simp)]
      exact heap_alloc_last w _
    · rw [hb.block _ (by simp)]
      have := heap_alloc_last (w.alloc (.cells cs 50)) (.cells o 50)
      rwa [World.size_alloc] at this))
  obtain ⟨id, inn, out, reg, kind, sp, a, c, rows⟩ := x
  simp only at *
  generalize EvCopy _ w = Q at *
  clear h hf
  simp only [Ev.enc] at hcs
  go_enter Tryz.func65, Tryz.ntmps65
  subst hcs
  go_wp2_with fail
  refine (HC.out _).mono ?_
  rintro e w1 ⟨a', c', rows', rfl, hr, hm, hu, hb⟩
  obtain ⟨hk1, hk2⟩ := HK.out _ _ hb
  have HBW := Lib.hid (HB.out _ _ _ hb)
  have HR := Lib.hid hr
  have HM := Lib.hid hm
  have HU := Lib.hid hu
  clear hb hr hm hu HC HB HK
  have c1 : ∀ j, w1.cell? ⟨w.heap.size, j, none⟩ = _ := fun j => cell_of_row _ _ j _ 50 (0, 0) hk1
  have c2 : ∀ j, w1.cell? ⟨w.heap.size + 1, j, none⟩ = _ := fun j => cell_of_row _ _ j _ 50 (0, 0) hk2
  have z1 : ∀ j, w1.frozen? ⟨w.heap.size, j, none⟩ = false := fun j => by simp [World.frozen?, hk1]
  have z2 : ∀ j, w1.frozen? ⟨w.heap.size + 1, j, none⟩ = false := fun j => by simp [World.frozen?, hk2]
  clear hk1 hk2
  go_wp2_with fail
  refine bodyPost_ret (v := .agg #[.int .i64 id, .int .i64 inn, .int .i64 out, .string reg, .int .u8 kind, .string sp, .slice a' rows'.length c']) (by simp [results, Tryz.results65, go_sem, c2]) rfl ?_
  have HF := Lib.hid (fun (b : Nat) (u u0 u1 u2 u3 u4 u5 u6 : Value) (hb : w.heap.size + 2 ≤ b) => (show ((((((((w1.setCell ⟨w.heap.size, 6, none⟩ u).setCell ⟨w.heap.size + 1, 0, none⟩ u0).setCell ⟨w.heap.size + 1, 1, none⟩ u1).setCell ⟨w.heap.size + 1, 2, none⟩ u2).setCell ⟨w.heap.size + 1, 3, none⟩ u3).setCell ⟨w.heap.size + 1, 4, none⟩ u4).setCell ⟨w.heap.size + 1, 5, none⟩ u5).setCell ⟨w.heap.size + 1, 6, none⟩ u6).heap[b]? = w1.heap[b]? by
    repeat rw [Below.heap_setCell _ _ _ _ (by simp only; omega)]))
  have HUU : ∀ b, rowsUse a' rows' b → w.heap.size + 2 ≤ b := fun b hu => by
    have := HU.out b hu
    simp at this
    omega
  refine HQ.out _ _ _ _ HM.out (RowsAt.frame HR.out (by simp) fun b hu => HF.out b _ _ _ _ _ _ _ _ (HUU b hu)) (fun b hu => by have := HUU b hu; omega) ?_
  repeat refine Below.setCell ?_ (by simp only; omega) _
  exact HBW.out
/-- The event with an ID in memory of the call's own, or none. -/
def EvGot (r : Option Ev) (w : World) (e : Ending) (w' : World) : Prop := ∃ y : Ev, e = .returned (.tuple #[.agg y.enc.toArray, .bool r.isSome]) ∧ y.c = (r.getD zeroEv).c ∧ y.lies w' ∧ (∀ b, y.uses b → w.heap.size ≤ b) ∧ Below w.heap.size w w'
set_option maxRecDepth 100000 in
set_option maxHeartbeats 3200000 in
theorem event49_calls (d : Doc) (id : Int) (w : World) (hr : EvsAt w d.ea d.evs) (hl : d.evs.length ≤ 4000000) (hf : ∀ x ∈ d.evs, x.rows.length ≤ 4000000 ∧ ∀ r ∈ x.rows, r.runs.length ≤ 4000000) :
    Calls Tryz.prog 49 #[.agg d.enc.toArray, .int .i64 id] w (EvGot (d.evs.find? (evIs id)) w) := by
  generalize hQ : EvGot (d.evs.find? (evIs id)) w = Q
  generalize hcs : d.enc.toArray = cs
  have HB2 := Lib.hid (fun (o o' : Obj) => (show Below w.heap.size w ((w.alloc o).alloc o') from ((Below.refl _ _).alloc (Nat.le_refl _) _).alloc (by simp) _))
  have HB := Lib.hid (fun (o o' : Obj) (w1 : World) (hb : Below ((w.alloc o).alloc o').heap.size ((w.alloc o).alloc o') w1) => (show Below w.heap.size w w1 from (HB2.out o o').trans (hb.mono (by simp; omega))))
  have HK := Lib.hid (fun (o : Array Value) (w1 : World) (hb : Below ((w.alloc (.cells cs 27)).alloc (.cells o 50)).heap.size ((w.alloc (.cells cs 27)).alloc (.cells o 50)) w1) => (show (w1.heap[w.heap.size]? = some (.cells cs 27 (0, 0)) ∧ w1.heap[w.heap.size + 1]? = some (.cells o 50 (0, 0))) by
    refine ⟨?_, ?_⟩
    · rw [hb.block _ (by simp; omega), Below.heap_alloc _ _ _ (by simp)]
      exact heap_alloc_last w _
    · rw [hb.block _ (by simp)]
      have := heap_alloc_last (w.alloc (.cells cs 27)) (.cells o 50)
      rwa [World.size_alloc] at this))
  have HC := Lib.hid (fun (w1 : World) (h : Below w.heap.size w w1) => refDocFind_calls d id w1 (hr.later h) hl)
  have hfd := posOf_find (hasId id) d.evs
  rw [show hasId id = evIs id from rfl] at hfd HC
  rcases hfd with ⟨hp, hfn⟩ | ⟨k, x, hp, hxk, hfn⟩
  · rw [hp] at HC
    rw [hfn] at hQ
    have HQ := Lib.hid (fun w' (hb : Below w.heap.size w w') => show Q (.returned (.tuple #[.agg zeroEv.enc.toArray, .bool false])) w' from hQ ▸ ⟨zeroEv, rfl, rfl, zeroEv_lies _, fun b hu => (zeroEv_uses b hu).elim, hb⟩)
    clear hQ hp hfn hf
    obtain ⟨title, lang, rate, drop, last, ra, rc, regs, ea, ec, evs, a, cc, xs⟩ := d
    simp only [Doc.enc] at hcs HC
    simp only at hl
    clear hr
    go_enter Tryz.func49, Tryz.ntmps49
    subst hcs
    go_wp2_with fail
    refine (HC.out _ (HB2.out _ _)).mono ?_
    rintro e w1 ⟨rfl, hb⟩
    obtain ⟨hk1, hk2⟩ := HK.out _ _ hb
    have HBW := Lib.hid (HB.out _ _ _ hb)
    clear hb HC HB HK HB2
    have c2 : ∀ j, w1.cell? ⟨w.heap.size + 1, j, none⟩ = _ := fun j => cell_of_row _ _ j _ 50 (0, 0) hk2
    have z2 : ∀ j, w1.frozen? ⟨w.heap.size + 1, j, none⟩ = false := fun j => by simp [World.frozen?, hk2]
    clear hk1 hk2
    go_wp2_with fail
    refine bodyPost_ret (v := .tuple #[.agg #[.int .i64 0, .int .i64 0, .int .i64 0, .string ⟨#[]⟩, .int .u8 0, .string ⟨#[]⟩, .slice none 0 0], .bool false]) (by simp [results, Tryz.results49, go_sem, c2]) rfl ?_
    refine HQ.out _ ?_
    repeat refine Below.setCell ?_ (by simp only; omega) _
    exact HBW.out
  · have hlt : k < d.evs.length := (List.getElem?_eq_some_iff.1 hxk).1
    obtain ⟨b, off, x', hea, hbl, hxk', hc, hlie⟩ := hr.at_ hlt
    obtain rfl : x = x' := by rw [hxk] at hxk'; exact Option.some.inj hxk'
    have hfx := hf x (List.mem_of_getElem? hxk)
    have HD := Lib.hid (fun (w1 : World) (h : Below w.heap.size w w1) (j : Nat) (v : Value) (hv : x.enc[j]? = some v) => (h.cell (p := ⟨b, off + k * 7 + j, none⟩) hbl).trans (hc j v hv))
    have HCL := Lib.hid (fun (w1 : World) (h : Below w.heap.size w w1) => refEvClone_calls x w1 (Ev.keeps _ _ _ h hlie) hfx.2 hfx.1)
    rw [hp] at HC
    rw [hfn] at hQ
    have HQ := Lib.hid (fun (y : Ev) (w2 w' : World) (he : y.c = x.c) (hy : y.lies w2) (hu : ∀ b, y.uses b → w.heap.size + 2 ≤ b) (hs : w2.heap.size ≤ w'.heap.size) (hk : ∀ b, w.heap.size + 2 ≤ b → w'.heap[b]? = w2.heap[b]?) (hb : Below w.heap.size w w') => show Q (.returned (.tuple #[.agg y.enc.toArray, .bool true])) w' from hQ ▸ ⟨y, rfl, he, Ev.frame hy hs fun b h => hk b (hu b h), fun b h => by have := hu b h; omega, hb⟩)
    clear hQ hp hfn hxk hxk' hc hlie hf hfx
    obtain ⟨title, lang, rate, drop, last, ra, rc, regs, ea, ec, evs, a, cc, xs⟩ := d
    simp only at hea hl hlt
    subst hea
    simp only [Doc.enc] at hcs HC
    clear hr
    generalize x.c = XC at *
    obtain ⟨xid, xin, xout, xreg, xkind, xsp, xa, xc, xrows⟩ := x
    simp only [Ev.enc] at HD HCL
    go_enter Tryz.func49, Tryz.ntmps49
    subst hcs
    go_wp2_with fail
    refine (HC.out _ (HB2.out _ _)).mono ?_
    rintro e w1 ⟨rfl, hb⟩
    obtain ⟨hk1, hk2⟩ := HK.out _ _ hb
    have hbw := HB.out _ _ _ hb
    have HBW := Lib.hid hbw
    have hw1 : w.heap.size + 2 ≤ w1.heap.size := by have := hb.size; simp at this; omega
    have d0 := HD.out _ hbw 0 _ rfl; have d1 := HD.out _ hbw 1 _ rfl; have d2 := HD.out _ hbw 2 _ rfl; have d3 := HD.out _ hbw 3 _ rfl; have d4 := HD.out _ hbw 4 _ rfl; have d5 := HD.out _ hbw 5 _ rfl; have d6 := HD.out _ hbw 6 _ rfl
    simp only [Nat.add_zero] at d0 d1 d2 d3 d4 d5 d6
    have HCL1 := Lib.hid (HCL.out _ hbw)
    clear hb hbw HC HB HK HB2 HD HCL
    have HK2 := Lib.hid (fun (w2 : World) (hb : Below w1.heap.size w1 w2) => (hb.block (w.heap.size + 1) (by omega)).trans hk2)
    have c1 : ∀ j, w1.cell? ⟨w.heap.size, j, none⟩ = _ := fun j => cell_of_row _ _ j _ 27 (0, 0) hk1
    clear hk1 hk2
    go_wp2_with fail
    refine HCL1.out.mono ?_
    rintro e w2 ⟨y, rfl, hyc, hyl, hyu, hb2⟩
    have hk2 := HK2.out _ hb2
    have HY := Lib.hid (fun (w' : World) => HQ.out y w2 w' hyc hyl (fun b hu => by have := hyu b hu; omega))
    have HBW2 := Lib.hid (HBW.out.trans (hb2.mono (by omega)))
    clear hyc hyl hyu hb2 HK2 HQ HBW HCL1 c1 d0 d1 d2 d3 d4 d5 d6
    have c2 : ∀ j, w2.cell? ⟨w.heap.size + 1, j, none⟩ = _ := fun j => cell_of_row _ _ j _ 50 (0, 0) hk2
    have z2 : ∀ j, w2.frozen? ⟨w.heap.size + 1, j, none⟩ = false := fun j => by simp [World.frozen?, hk2]
    clear hk2
    obtain ⟨yid, yin, yout, yreg, ykind, ysp, ya, yc, yrows⟩ := y
    simp only [Ev.enc] at HY ⊢
    go_wp2_with fail
    refine bodyPost_ret (v := .tuple #[.agg #[.int .i64 yid, .int .i64 yin, .int .i64 yout, .string yreg, .int .u8 ykind, .string ysp, .slice ya yrows.length yc], .bool true]) (by simp [results, Tryz.results49, go_sem, c2]) rfl ?_
    refine HY.out _ (by simp) (fun b hb => ?_) ?_
    · repeat rw [Below.heap_setCell _ _ _ _ (by simp only; omega)]
    · repeat refine Below.setCell ?_ (by simp only; omega) _
      exact HBW2.out
end Go.Proofs.YtnlnmbcaongehaaGreatDoor
