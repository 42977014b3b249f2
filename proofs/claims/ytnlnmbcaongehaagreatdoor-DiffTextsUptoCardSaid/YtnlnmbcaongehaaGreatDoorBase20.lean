/- slices.Equal at regions and comments, slices.EqualFunc at events, document.Same of documents with equal contents. (printed by gen_docsame.py) The contract of awake: the chapter's example holds. -/
import Derived.Deep.RegionHeld3
import Derived.Deep.DeepCutAuto
import Derived.Deep.DrawnRows
import Derived.BigQuiet
import Derived.Test.YtnlnmbcaongehaaGreatDoorBase12
import Derived.Test.YtnlnmbcaongehaaGreatDoorBase09
import Derived.Test.YtnlnmbcaongehaaGreatDoorBase18
import Derived.Test.YtnlnmbcaongehaaGreatDoorBase19
set_option linter.unusedVariables false
set_option linter.unusedSimpArgs false
namespace Go.Proofs.YtnlnmbcaongehaaGreatDoor
open Go.RowKit
attribute [local go_sem ↓] Go.wp_at_zero Go.wp_at_succ
theorem allEq_len {α : Type} (eq : α → α → Bool) : ∀ xs ys : List α, xs.length ≠ ys.length → Lib.allEq eq xs ys = false
  | [], [], h => absurd rfl h
  | [], _ :: _, _ => rfl
  | _ :: _, [], _ => rfl
  | x :: xs, y :: ys, h => by
    have := allEq_len eq xs ys (by simpa using h)
    simp only [Lib.allEq, this, Bool.and_false]
theorem allEq_same {α : Type} (eq : α → α → Bool) (h : ∀ x, eq x x = true) : ∀ xs : List α, Lib.allEq eq xs xs = true
  | [] => rfl
  | x :: l => by simp only [Lib.allEq, h x, allEq_same eq h l, Bool.and_self]
set_option maxRecDepth 100000 in
set_option maxHeartbeats 3200000 in
theorem equalReg_calls (a b : Option Addr) (c c' : Nat) (xs ys : List Reg) (w : World) (hx : SliceOf 7 Reg.enc Flat w a xs) (hy : SliceOf 7 Reg.enc Flat w b ys) (hl : xs.length ≤ 4000000) (hl' : ys.length ≤ 4000000) :
    Calls Tryz.prog 59 #[.slice a xs.length c, .slice b ys.length c'] w fun e w' => e = .returned (.bool (Lib.allEq regEq xs ys)) ∧ Below w.heap.size w w' := by
  generalize hR : Lib.allEq regEq xs ys = R
  by_cases hle : xs.length = ys.length
  · have HX := Lib.hid (fun (w1 : World) (h : Below w.heap.size w w1) => SliceOf.keeps Flat.keeps _ _ _ _ h hx)
    have HY := Lib.hid (fun (w1 : World) (h : Below w.heap.size w w1) => SliceOf.keeps Flat.keeps _ _ _ _ h hy)
    have H0 := Lib.hid (show Lib.allEq regEq (xs.drop 0) (ys.drop 0) = R from hR)
    rw [← hle]
    have HLE := Lib.hid hle
    clear hle hx hy hl' hR
    go_enter Tryz.func59, Tryz.ntmps59
    go_wp2_with fail
    go_loopw [13] (fun i wr => ∃ k : Nat, k ≤ xs.length ∧ i = .int .i64 k ∧ Lib.allEq regEq (xs.drop k) (ys.drop k) = R ∧ Below w.heap.size w wr) (fun i _ => xs.length - (intOf i).toNat)
    case atStart => exact ⟨0, by omega, rfl, H0.out, Below.refl _ _⟩
    case round =>
      clear H0
      obtain ⟨k, hk, rfl, hp, hb⟩ := hrel
      by_cases hlt : k < xs.length
      · obtain ⟨b0, off, x, rfl, hbl, hxk, hcx, _⟩ := (HX.out _ hb).at_ hlt
        obtain ⟨b0', off', y, rfl, hbl', hyk, hcy, _⟩ := (HY.out _ hb).at_ (show k < ys.length from by have := HLE.out; omega)
        rw [drop_at xs k x hxk, drop_at ys k y hyk, Lib.allEq] at hp
        have r1 := fun wx => run_regNe x y wx
        have d0 := hcx 0 _ rfl; have d1 := hcx 1 _ rfl; have d2 := hcx 2 _ rfl; have d3 := hcx 3 _ rfl; have d4 := hcx 4 _ rfl; have d5 := hcx 5 _ rfl; have d6 := hcx 6 _ rfl; have e0 := hcy 0 _ rfl; have e1 := hcy 1 _ rfl; have e2 := hcy 2 _ rfl; have e3 := hcy 3 _ rfl; have e4 := hcy 4 _ rfl; have e5 := hcy 5 _ rfl; have e6 := hcy 6 _ rfl
        generalize hQ : regEq x y = EQ at hp r1
        obtain ⟨xnm, xtop, xheight, xleft, xwidth, xalign, xbottom⟩ := x
        obtain ⟨ynm, ytop, yheight, yleft, ywidth, yalign, ybottom⟩ := y
        simp only [Reg.enc, Nat.add_zero] at r1 d0 e0 d1 e1 d2 e2 d3 e3 d4 e4 d5 e5 d6 e6
        have HBN := Lib.hid (fun n => below_drewN hb n)
        clear hcx hcy hxk hyk hQ
        cases EQ with
        | true =>
          have HP := Lib.hid (by simpa using hp)
          clear hp
          go_wp2_with fail
          go_quiet (fail)
          go_wp2_with fail
          go_roundw
          case rel => exact ⟨k + 1, by omega, by go_num, HP.out, HBN.out _⟩
          all_goals first | (simp [intOf]; done) | (simp [intOf]; omega)
        | false =>
          have HP := Lib.hid (show R = false from by rw [← hp]; rfl)
          clear hp
          go_wp2_with fail
          go_quiet (fail)
          go_wp2_with fail
          go_ret
          exact ⟨by rw [HP.out]; rfl, HBN.out _⟩
      · obtain rfl : k = xs.length := by omega
        have HP := Lib.hid (show R = true from by
          rw [← hp, List.drop_length, List.drop_eq_nil_of_le (by have := HLE.out; omega)]
          rfl)
        clear hp
        go_wp2_with fail
        go_ret
        exact ⟨by rw [HP.out]; rfl, hb⟩
  · have HP := Lib.hid (show R = false from by rw [← hR]; exact allEq_len _ _ _ hle)
    have hne : (((xs.length : Nat) : Int) != ((ys.length : Nat) : Int)) = true := by
      simp only [bne_iff_ne, ne_eq]
      omega
    clear hx hy hR hle
    go_enter Tryz.func59, Tryz.ntmps59
    go_wp2_with fail
    go_ret
    exact ⟨by rw [HP.out]; rfl, Below.refl _ _⟩
set_option maxRecDepth 100000 in
set_option maxHeartbeats 3200000 in
theorem equalCm_calls (a b : Option Addr) (c c' : Nat) (xs ys : List Cm) (w : World) (hx : SliceOf 8 Cm.enc Flat w a xs) (hy : SliceOf 8 Cm.enc Flat w b ys) (hl : xs.length ≤ 4000000) (hl' : ys.length ≤ 4000000) :
    Calls Tryz.prog 61 #[.slice a xs.length c, .slice b ys.length c'] w fun e w' => e = .returned (.bool (Lib.allEq cmEq xs ys)) ∧ Below w.heap.size w w' := by
  generalize hR : Lib.allEq cmEq xs ys = R
  by_cases hle : xs.length = ys.length
  · have HX := Lib.hid (fun (w1 : World) (h : Below w.heap.size w w1) => SliceOf.keeps Flat.keeps _ _ _ _ h hx)
    have HY := Lib.hid (fun (w1 : World) (h : Below w.heap.size w w1) => SliceOf.keeps Flat.keeps _ _ _ _ h hy)
    have H0 := Lib.hid (show Lib.allEq cmEq (xs.drop 0) (ys.drop 0) = R from hR)
    rw [← hle]
    have HLE := Lib.hid hle
    clear hle hx hy hl' hR
    go_enter Tryz.func61, Tryz.ntmps61
    go_wp2_with fail
    go_loopw [13] (fun i wr => ∃ k : Nat, k ≤ xs.length ∧ i = .int .i64 k ∧ Lib.allEq cmEq (xs.drop k) (ys.drop k) = R ∧ Below w.heap.size w wr) (fun i _ => xs.length - (intOf i).toNat)
    case atStart => exact ⟨0, by omega, rfl, H0.out, Below.refl _ _⟩
    case round =>
      clear H0
      obtain ⟨k, hk, rfl, hp, hb⟩ := hrel
      by_cases hlt : k < xs.length
      · obtain ⟨b0, off, x, rfl, hbl, hxk, hcx, _⟩ := (HX.out _ hb).at_ hlt
        obtain ⟨b0', off', y, rfl, hbl', hyk, hcy, _⟩ := (HY.out _ hb).at_ (show k < ys.length from by have := HLE.out; omega)
        rw [drop_at xs k x hxk, drop_at ys k y hyk, Lib.allEq] at hp
        have r1 := fun wx => run_cmNe x y wx
        have d0 := hcx 0 _ rfl; have d1 := hcx 1 _ rfl; have d2 := hcx 2 _ rfl; have d3 := hcx 3 _ rfl; have d4 := hcx 4 _ rfl; have d5 := hcx 5 _ rfl; have d6 := hcx 6 _ rfl; have d7 := hcx 7 _ rfl; have e0 := hcy 0 _ rfl; have e1 := hcy 1 _ rfl; have e2 := hcy 2 _ rfl; have e3 := hcy 3 _ rfl; have e4 := hcy 4 _ rfl; have e5 := hcy 5 _ rfl; have e6 := hcy 6 _ rfl; have e7 := hcy 7 _ rfl
        generalize hQ : cmEq x y = EQ at hp r1
        obtain ⟨xid, xev, xfrm, xtil, xau, xtx, xdn, xlo⟩ := x
        obtain ⟨yid, yev, yfrm, ytil, yau, ytx, ydn, ylo⟩ := y
        simp only [Cm.enc, Nat.add_zero] at r1 d0 e0 d1 e1 d2 e2 d3 e3 d4 e4 d5 e5 d6 e6 d7 e7
        have HBN := Lib.hid (fun n => below_drewN hb n)
        clear hcx hcy hxk hyk hQ
        cases EQ with
        | true =>
          have HP := Lib.hid (by simpa using hp)
          clear hp
          go_wp2_with fail
          go_quiet (fail)
          go_wp2_with fail
          go_roundw
          case rel => exact ⟨k + 1, by omega, by go_num, HP.out, HBN.out _⟩
          all_goals first | (simp [intOf]; done) | (simp [intOf]; omega)
        | false =>
          have HP := Lib.hid (show R = false from by rw [← hp]; rfl)
          clear hp
          go_wp2_with fail
          go_quiet (fail)
          go_wp2_with fail
          go_ret
          exact ⟨by rw [HP.out]; rfl, HBN.out _⟩
      · obtain rfl : k = xs.length := by omega
        have HP := Lib.hid (show R = true from by
          rw [← hp, List.drop_length, List.drop_eq_nil_of_le (by have := HLE.out; omega)]
          rfl)
        clear hp
        go_wp2_with fail
        go_ret
        exact ⟨by rw [HP.out]; rfl, hb⟩
  · have HP := Lib.hid (show R = false from by rw [← hR]; exact allEq_len _ _ _ hle)
    have hne : (((xs.length : Nat) : Int) != ((ys.length : Nat) : Int)) = true := by
      simp only [bne_iff_ne, ne_eq]
      omega
    clear hx hy hR hle
    go_enter Tryz.func61, Tryz.ntmps61
    go_wp2_with fail
    go_ret
    exact ⟨by rw [HP.out]; rfl, Below.refl _ _⟩
set_option maxRecDepth 100000 in
set_option maxHeartbeats 3200000 in
theorem equalEv_calls (a b : Option Addr) (c c' : Nat) (xs ys : List Ev) (w : World) (hx : EvsAt w a xs) (hy : EvsAt w b ys) (hf : ∀ x ∈ xs, x.rows.length ≤ 4000000 ∧ ∀ r ∈ x.rows, r.runs.length ≤ 4000000) (hf' : ∀ x ∈ ys, x.rows.length ≤ 4000000 ∧ ∀ r ∈ x.rows, r.runs.length ≤ 4000000) (hl : xs.length ≤ 4000000) (hl' : ys.length ≤ 4000000) :
    Calls Tryz.prog 60 #[.slice a xs.length c, .slice b ys.length c', .func (.func 28) #[] #[]] w fun e w' => e = .returned (.bool (Lib.allEq evEq xs ys)) ∧ Below w.heap.size w w' := by
  generalize hR : Lib.allEq evEq xs ys = R
  by_cases hle : xs.length = ys.length
  · have HX := Lib.hid (fun (w1 : World) (h : Below w.heap.size w w1) => hx.later h)
    have HY := Lib.hid (fun (w1 : World) (h : Below w.heap.size w w1) => hy.later h)
    have H0 := Lib.hid (show Lib.allEq evEq (xs.drop 0) (ys.drop 0) = R from hR)
    have HF := Lib.hid hf
    have HG := Lib.hid hf'
    rw [← hle]
    have HLE := Lib.hid hle
    clear hle hx hy hl' hR hf hf'
    go_enter Tryz.func60, Tryz.ntmps60
    go_wp2_with fail
    go_loopw [17] (fun i wr => ∃ k : Nat, k ≤ xs.length ∧ i = .int .i64 k ∧ Lib.allEq evEq (xs.drop k) (ys.drop k) = R ∧ Below w.heap.size w wr) (fun i _ => xs.length - (intOf i).toNat)
    case atStart => exact ⟨0, by omega, rfl, H0.out, Below.refl _ _⟩
    case round =>
      clear H0
      obtain ⟨k, hk, rfl, hp, hb⟩ := hrel
      by_cases hlt : k < xs.length
      · obtain ⟨b0, off, x, rfl, hbl, hxk, hcx, hxl⟩ := (HX.out _ hb).at_ hlt
        obtain ⟨b0', off', y, rfl, hbl', hyk, hcy, hyl⟩ := (HY.out _ hb).at_ (show k < ys.length from by have := HLE.out; omega)
        rw [drop_at xs k x hxk, drop_at ys k y hyk, Lib.allEq] at hp
        have hfx := HF.out x (List.mem_of_getElem? hxk)
        have hfy := HG.out y (List.mem_of_getElem? hyk)
        have HES := Lib.hid (fun (w1 : World) (h : Below wr.heap.size wr w1) => evSame_calls x y w1 (Ev.keeps _ _ _ h hxl) (Ev.keeps _ _ _ h hyl) hfx.2 hfy.2 hfx.1)
        have hcell : ∀ (w1 : World), Below wr.heap.size wr w1 → ∀ (q : Nat) (u : Value), y.enc[q]? = some u → w1.cell? ⟨b0', off' + k * 7 + q, none⟩ = some u := fun w1 h q u e => (h.cell (p := ⟨b0', off' + k * 7 + q, none⟩) hbl').trans (hcy q u e)
        have d0 := hcx 0 _ rfl; have d1 := hcx 1 _ rfl; have d2 := hcx 2 _ rfl; have d3 := hcx 3 _ rfl; have d4 := hcx 4 _ rfl; have d5 := hcx 5 _ rfl; have d6 := hcx 6 _ rfl
        have HA1 := Lib.hid (fun (o : Obj) => ((Below.refl wr.heap.size wr).alloc (Nat.le_refl _) o))
        have HA2 := Lib.hid (fun (o o' : Obj) => (((Below.refl wr.heap.size wr).alloc (Nat.le_refl _) o).alloc (by simp) o' : Below wr.heap.size wr ((wr.alloc o).alloc o')))
        have e0 := fun (o : Obj) => hcell _ (HA1.out o) 0 _ rfl
        have e1 := fun (o : Obj) => hcell _ (HA1.out o) 1 _ rfl
        have e2 := fun (o : Obj) => hcell _ (HA1.out o) 2 _ rfl
        have e3 := fun (o : Obj) => hcell _ (HA1.out o) 3 _ rfl
        have e4 := fun (o : Obj) => hcell _ (HA1.out o) 4 _ rfl
        have e5 := fun (o : Obj) => hcell _ (HA1.out o) 5 _ rfl
        have e6 := fun (o : Obj) => hcell _ (HA1.out o) 6 _ rfl
        generalize hQ : evEq x y = EQ at hp HES
        obtain ⟨xid, xin, xout, xreg, xkind, xsp, xa, xc, xrows⟩ := x
        obtain ⟨yid, yin, yout, yreg, ykind, ysp, ya, yc, yrows⟩ := y
        simp only [Ev.enc, Nat.add_zero] at HES d0 e0
        have HBR := Lib.hid hb
        clear hcx hcy hxk hyk hQ hcell hfx hfy hxl hyl
        go_wp2_with fail
        refine (HES.out _ (HA2.out _ _)).mono ?_
        rintro e w5 ⟨rfl, hb5⟩
        have HB5 := Lib.hid (HBR.out.trans (((HA2.out _ _).trans (hb5.mono (HA2.out _ _).size)).mono HBR.out.size))
        clear hb5 HES
        cases EQ with
        | true =>
          have HP := Lib.hid (by simpa using hp)
          clear hp
          go_wp2_with fail
          go_roundw
          case rel => exact ⟨k + 1, by omega, by go_num, HP.out, HB5.out⟩
          all_goals first | (simp [intOf]; done) | (simp [intOf]; omega)
        | false =>
          have HP := Lib.hid (show R = false from by rw [← hp]; rfl)
          clear hp
          go_wp2_with fail
          go_ret
          exact ⟨by rw [HP.out]; rfl, HB5.out⟩
      · obtain rfl : k = xs.length := by omega
        have HP := Lib.hid (show R = true from by
          rw [← hp, List.drop_length, List.drop_eq_nil_of_le (by have := HLE.out; omega)]
          rfl)
        clear hp
        go_wp2_with fail
        go_ret
        exact ⟨by rw [HP.out]; rfl, hb⟩
  · have HP := Lib.hid (show R = false from by rw [← hR]; exact allEq_len _ _ _ hle)
    have hne : (((xs.length : Nat) : Int) != ((ys.length : Nat) : Int)) = true := by
      simp only [bne_iff_ne, ne_eq]
      omega
    clear hx hy hR hle hf hf'
    go_enter Tryz.func60, Tryz.ntmps60
    go_wp2_with fail
    go_ret
    exact ⟨by rw [HP.out]; rfl, Below.refl _ _⟩
theorem allEq_evs : ∀ xs ys : List Ev, xs.map Ev.c = ys.map Ev.c → Lib.allEq evEq xs ys = true
  | [], [], _ => rfl
  | [], y :: l, h => by simp at h
  | x :: l, [], h => by simp at h
  | x :: l, y :: m, h => by
    simp only [List.map_cons, List.cons.injEq] at h
    simp only [Lib.allEq, evEq_c x y h.1, allEq_evs l m h.2, Bool.and_self]
set_option maxRecDepth 100000 in
set_option maxHeartbeats 6400000 in
theorem docSame_true (d d' : Doc) (w : World) (hd : d.lies w) (hd' : d'.lies w) (hc : d.c = d'.c) (hf : ∀ x ∈ d.evs, x.rows.length ≤ 4000000 ∧ ∀ r ∈ x.rows, r.runs.length ≤ 4000000) (hf' : ∀ x ∈ d'.evs, x.rows.length ≤ 4000000 ∧ ∀ r ∈ x.rows, r.runs.length ≤ 4000000) (hr : d.regs.length ≤ 4000000) (he : d.evs.length ≤ 4000000) (he' : d'.evs.length ≤ 4000000) (hm : d.cms.length ≤ 4000000) :
    Calls Tryz.prog 18 #[.agg d.enc.toArray, .agg d'.enc.toArray] w fun e w' => e = .returned (.bool true) ∧ Below w.heap.size w w' := by
  generalize hQ : (fun (e : Ending) (w' : World) => e = .returned (.bool true) ∧ Below w.heap.size w w') = Q
  have HQ := Lib.hid (fun w' (hb : Below w.heap.size w w') => show Q (.returned (.bool true)) w' from hQ ▸ ⟨rfl, hb⟩)
  clear hQ
  have HH1 := Lib.hid (fun w1 => head_calls d w1)
  have HH2 := Lib.hid (fun w1 => head_calls d' w1)
  obtain ⟨title, lang, rate, drop, last, ra, rc, regs, ea, ec, evs, ca, cc, cms⟩ := d
  obtain ⟨title', lang', rate', drop', last', ra', rc', regs', ea', ec', evs', ca', cc', cms'⟩ := d'
  simp only [Doc.c, Doc.hd, DocC.mk.injEq, Hd.mk.injEq] at hc
  obtain ⟨⟨rfl, rfl, rfl, rfl, rfl⟩, rfl, hev, rfl⟩ := hc
  simp only at hr he he' hm hf hf'
  have HE := Lib.hid (fun (w1 : World) (h : Below w.heap.size w w1) => (show Calls Tryz.prog 60 #[.slice ea evs.length ec, .slice ea' evs'.length ec', .func (.func 28) #[] #[]] w1 (fun e w' => e = .returned (.bool true) ∧ Below w1.heap.size w1 w') from by
    have := equalEv_calls ea ea' ec ec' evs evs' w1 (hd.2.1.later h) (hd'.2.1.later h) hf hf' he he'
    rwa [allEq_evs evs evs' hev] at this))
  have HR := Lib.hid (fun (w1 : World) (h : Below w.heap.size w w1) => (show Calls Tryz.prog 59 #[.slice ra regs.length rc, .slice ra' regs.length rc'] w1 (fun e w' => e = .returned (.bool true) ∧ Below w1.heap.size w1 w') from by
    have := equalReg_calls ra ra' rc rc' regs regs w1 (hd.1.later h) (hd'.1.later h) hr hr
    rwa [allEq_same regEq regEq_refl regs] at this))
  have HC := Lib.hid (fun (w1 : World) (h : Below w.heap.size w w1) => (show Calls Tryz.prog 61 #[.slice ca cms.length cc, .slice ca' cms.length cc'] w1 (fun e w' => e = .returned (.bool true) ∧ Below w1.heap.size w1 w') from by
    have := equalCm_calls ca ca' cc cc' cms cms w1 (hd.2.2.later h) (hd'.2.2.later h) hm hm
    rwa [allEq_same cmEq cmEq_refl cms] at this))
  have r1 := fun wx => run_hdEq ⟨title, lang, rate, drop, last⟩ ⟨title, lang, rate, drop, last⟩ wx
  rw [hdEq_refl] at r1
  simp only [Doc.enc, Doc.hd, Hd.enc] at *
  generalize hds : #[Value.string title, .string lang, .int .u8 rate, .bool drop, .int .i64 last, .slice ra regs.length rc, .slice ea evs.length ec, .slice ca cms.length cc] = ds
  generalize hqs : #[Value.string title, .string lang, .int .u8 rate, .bool drop, .int .i64 last, .slice ra' regs.length rc', .slice ea' evs'.length ec', .slice ca' cms.length cc'] = qs
  have f0 := box2_fst w ds qs 27 27 0 (.string title) (by rw [← hds]; rfl)
  have f1 := box2_fst w ds qs 27 27 1 (.string lang) (by rw [← hds]; rfl)
  have f2 := box2_fst w ds qs 27 27 2 (.int .u8 rate) (by rw [← hds]; rfl)
  have f3 := box2_fst w ds qs 27 27 3 (.bool drop) (by rw [← hds]; rfl)
  have f4 := box2_fst w ds qs 27 27 4 (.int .i64 last) (by rw [← hds]; rfl)
  have f5 := box2_fst w ds qs 27 27 5 (.slice ra regs.length rc) (by rw [← hds]; rfl)
  have f6 := box2_fst w ds qs 27 27 6 (.slice ea evs.length ec) (by rw [← hds]; rfl)
  have f7 := box2_fst w ds qs 27 27 7 (.slice ca cms.length cc) (by rw [← hds]; rfl)
  have g0 := box2_snd w ds qs 27 27 0 (.string title) (by rw [← hqs]; rfl)
  have g1 := box2_snd w ds qs 27 27 1 (.string lang) (by rw [← hqs]; rfl)
  have g2 := box2_snd w ds qs 27 27 2 (.int .u8 rate) (by rw [← hqs]; rfl)
  have g3 := box2_snd w ds qs 27 27 3 (.bool drop) (by rw [← hqs]; rfl)
  have g4 := box2_snd w ds qs 27 27 4 (.int .i64 last) (by rw [← hqs]; rfl)
  have g5 := box2_snd w ds qs 27 27 5 (.slice ra' regs.length rc') (by rw [← hqs]; rfl)
  have g6 := box2_snd w ds qs 27 27 6 (.slice ea' evs'.length ec') (by rw [← hqs]; rfl)
  have g7 := box2_snd w ds qs 27 27 7 (.slice ca' cms.length cc') (by rw [← hqs]; rfl)
  have HB := Lib.hid (fun (w1 : World) (h : Below (w.heap.size + 2) ((w.alloc (.cells ds 27)).alloc (.cells qs 27)) w1) => box2_below h)
  have hb0 : Below (w.heap.size + 2) ((w.alloc (.cells ds 27)).alloc (.cells qs 27)) ((w.alloc (.cells ds 27)).alloc (.cells qs 27)) := Below.refl _ _
  have hsz : ((w.alloc (.cells ds 27)).alloc (.cells qs 27)).heap.size = w.heap.size + 2 := by simp
  generalize hW0 : (w.alloc (.cells ds 27)).alloc (.cells qs 27) = W0 at *
  have HW0 := Lib.hid hW0
  have HSZ := Lib.hid hsz
  have HT0 := Lib.hid (fun (w2 w3 : World) (h : Below (w.heap.size + 2) W0 w2) (h3 : Below w2.heap.size w2 w3) => (h.trans (h3.mono (by have := h.size; rw [HSZ.out] at this; exact this)) : Below (w.heap.size + 2) W0 w3))
  have G1 := Lib.hid (fun (w1 : World) (h : Below (w.heap.size + 2) W0 w1) => (HH1.out w1).mono (fun e w' p => (show e = _ ∧ Below (w.heap.size + 2) W0 w' from ⟨p.1, HT0.out _ _ h p.2⟩)))
  have G2 := Lib.hid (fun (w1 : World) (h : Below (w.heap.size + 2) W0 w1) => (HH2.out w1).mono (fun e w' p => (show e = _ ∧ Below (w.heap.size + 2) W0 w' from ⟨p.1, HT0.out _ _ h p.2⟩)))
  have GR := Lib.hid (fun (w1 : World) (h : Below (w.heap.size + 2) W0 w1) => (HR.out w1 (HB.out _ h)).mono (fun e w' p => (show e = _ ∧ Below (w.heap.size + 2) W0 w' from ⟨p.1, HT0.out _ _ h p.2⟩)))
  have GE := Lib.hid (fun (w1 : World) (h : Below (w.heap.size + 2) W0 w1) => (HE.out w1 (HB.out _ h)).mono (fun e w' p => (show e = _ ∧ Below (w.heap.size + 2) W0 w' from ⟨p.1, HT0.out _ _ h p.2⟩)))
  have GC := Lib.hid (fun (w1 : World) (h : Below (w.heap.size + 2) W0 w1) => (HC.out w1 (HB.out _ h)).mono (fun e w' p => (show e = _ ∧ Below (w.heap.size + 2) W0 w' from ⟨p.1, HT0.out _ _ h p.2⟩)))
  have hbd : Below (w.heap.size + 2) W0 W0.drew := hb0.drew
  clear hW0 hsz hd hd' hev hf hf' HH1 HH2 HR HE HC
  go_enter Tryz.func18, Tryz.ntmps18
  subst hds
  subst hqs
  go_upto_region 1 with fail
  rw [HW0.out]
  go_region_held3 (fun w' => Below (w.heap.size + 2) W0 w') (first | with_reducible assumption | with_reducible exact hbd) (first
    | (go_at_call 33; (with_reducible refine (G1.out _ ?_).mono ?_); (first | with_reducible assumption); rintro e w33G1 ⟨rfl, h33G1⟩)
    | (go_at_call 33; (with_reducible refine (G2.out _ ?_).mono ?_); (first | with_reducible assumption); rintro e w33G2 ⟨rfl, h33G2⟩)
    | (go_at_call 59; (with_reducible refine (GR.out _ ?_).mono ?_); (first | with_reducible assumption); rintro e w59GR ⟨rfl, h59GR⟩)
    | (go_at_call 60; (with_reducible refine (GE.out _ ?_).mono ?_); (first | with_reducible assumption); rintro e w60GE ⟨rfl, h60GE⟩)
    | (go_at_call 61; (with_reducible refine (GC.out _ ?_).mono ?_); (first | with_reducible assumption); rintro e w61GC ⟨rfl, h61GC⟩))
  go_wp2_with fail
  exact HQ.out _ (HB.out _ h61GC)
end Go.Proofs.YtnlnmbcaongehaaGreatDoor
namespace Go.Proofs.YtnlnmbcaongehaaGreatDoor
open Go.RowKit
/-- What is asked of the library's variables. -/
def Aw (w : World) : Prop := Env w ∧ Lib.TabIs Tryz.prog w "internal/strconv.uint64pow10" .u64 Lib.pow10Tab
theorem Aw.below {w w' : World} (h : Aw w) (hb : Below w.heap.size w w') : Aw w' := ⟨h.1.below hb (Nat.le_refl _), Go.Joins.tab_stays pow10_global h.2 hb (Nat.le_refl _)⟩
def awRegV : Array Value := #[.string sTOP, .int .i64 1, .int .i64 2, .int .i64 0, .int .i64 32, .int .u8 1, .bool false]
def awRunV : Array Value := #[.string sA, .int .u8 0, .bool false, .bool false, .string sNo]
/-- The world behind the two documents. -/
def awWorld (w : World) : World :=
  let n := w.heap.size
  let rows : Value := .slice (some ⟨n + 2, 0, none⟩) 1 1
  (((((((w.alloc (.cells awRegV 44)).alloc (.cells awRunV 75)).alloc (.cells #[.slice (some ⟨n + 1, 0, none⟩) 1 1] 78)).alloc (.cells awRegV 44)).alloc (.cells #[.int .i64 1, .int .i64 0, .int .i64 9, .string sTOP, .int .u8 1, .string sNo, rows] 50)).alloc
    (.cells #[.string sNo, .string sNo, .int .u8 3, .bool false, .int .i64 1, .slice (some ⟨n + 3, 0, none⟩) 1 1, .slice (some ⟨n + 4, 0, none⟩) 1 1, .slice none 0 0] 27)).alloc (.cells #[.int .i64 1, .int .i64 1, .int .i64 9, .string sNo, .int .u8 1, .string sNo, rows] 50)).alloc
    (.cells #[.string sNo, .string sNo, .int .u8 3, .bool false, .int .i64 1, .slice none 0 0, .slice (some ⟨n + 6, 0, none⟩) 1 1, .slice none 0 0] 27)
def awDA (n : Nat) : Doc := awA (some ⟨n + 3, 0, none⟩) 1 (some ⟨n + 4, 0, none⟩) 1 (some ⟨n + 2, 0, none⟩) 1 (some ⟨n + 1, 0, none⟩) 1 none 0
def awDB (n : Nat) : Doc := awB none 0 (some ⟨n + 6, 0, none⟩) 1 (some ⟨n + 2, 0, none⟩) 1 (some ⟨n + 1, 0, none⟩) 1 none 0
theorem awWorld_size (w : World) : (awWorld w).heap.size = w.heap.size + 8 := by simp [awWorld]
theorem awWorld_below (w : World) : Below w.heap.size w (awWorld w) := by
  unfold awWorld
  exact (((((((((Below.refl _ _).alloc (Nat.le_refl _) _).alloc (by simp) _).alloc (by simp; omega) _).alloc (by simp; omega) _).alloc (by simp; omega) _).alloc (by simp; omega) _).alloc (by simp; omega) _).alloc (by simp; omega) _)
theorem awW1 (w : World) : (awWorld w).heap[w.heap.size + 1]? = some (.cells awRunV 75 (0, 0)) := by
  unfold awWorld
  exact alloc_at (alloc_at (alloc_at (alloc_at (alloc_at (alloc_at (alloc_last' _ (by simp)))))))
theorem awW2 (w : World) : (awWorld w).heap[w.heap.size + 2]? = some (.cells #[.slice (some ⟨w.heap.size + 1, 0, none⟩) 1 1] 78 (0, 0)) := by
  unfold awWorld
  exact alloc_at (alloc_at (alloc_at (alloc_at (alloc_at (alloc_last' _ (by simp))))))
theorem awW3 (w : World) : (awWorld w).heap[w.heap.size + 3]? = some (.cells awRegV 44 (0, 0)) := by
  unfold awWorld
  exact alloc_at (alloc_at (alloc_at (alloc_at (alloc_last' _ (by simp)))))
theorem awW4 (w : World) : (awWorld w).heap[w.heap.size + 4]? = some (.cells #[.int .i64 1, .int .i64 0, .int .i64 9, .string sTOP, .int .u8 1, .string sNo, .slice (some ⟨w.heap.size + 2, 0, none⟩) 1 1] 50 (0, 0)) := by
  unfold awWorld
  exact alloc_at (alloc_at (alloc_at (alloc_last' _ (by simp))))
theorem awW5 (w : World) : (awWorld w).heap[w.heap.size + 5]? = some (.cells (awDA w.heap.size).enc.toArray 27 (0, 0)) := by
  unfold awWorld
  exact alloc_at (alloc_at (alloc_last' _ (by simp)))
theorem awW6 (w : World) : (awWorld w).heap[w.heap.size + 6]? = some (.cells #[.int .i64 1, .int .i64 1, .int .i64 9, .string sNo, .int .u8 1, .string sNo, .slice (some ⟨w.heap.size + 2, 0, none⟩) 1 1] 50 (0, 0)) := by
  unfold awWorld
  exact alloc_at (alloc_last' _ (by simp))
theorem awW7 (w : World) : (awWorld w).heap[w.heap.size + 7]? = some (.cells (awDB w.heap.size).enc.toArray 27 (0, 0)) := by
  unfold awWorld
  exact alloc_last' _ (by simp)
/-- A slice of one element that lies in a block of its own. -/
theorem slice_one {α : Type} {k : Nat} {enc : α → List Value} {Ok : World → α → Prop} {w : World} {b : Nat} {t : TypeId} (x : α) (h : w.heap[b]? = some (.cells (enc x).toArray t (0, 0))) (ho : Ok w x) : SliceOf k enc Ok w (some ⟨b, 0, none⟩) [x] := by
  refine .inr ⟨b, 0, rfl, (Array.getElem?_eq_some_iff.1 h).1, fun i y hy => ?_⟩
  obtain ⟨rfl, rfl⟩ : i = 0 ∧ x = y := by
    cases i with
    | zero => exact ⟨rfl, by simpa using hy⟩
    | succ n => simp at hy
  refine ⟨fun j v hv => ?_, ho⟩
  rw [show 0 + 0 * k + j = j by omega, cell_of_row _ _ j _ t (0, 0) h]
  simpa using hv
theorem aw_rows (w : World) : SliceOf 1 Row.enc Row.lies (awWorld w) (some ⟨w.heap.size + 2, 0, none⟩) (awRows (some ⟨w.heap.size + 1, 0, none⟩) 1) :=
  slice_one (t := 78) _ (awW2 w) (slice_one (t := 75) _ (awW1 w) trivial)
theorem awDA_lies (w : World) : (awDA w.heap.size).lies (awWorld w) :=
  ⟨slice_one (t := 44) _ (awW3 w) trivial, slice_one (t := 50) _ (awW4 w) (aw_rows w), .inl rfl⟩
theorem awDB_lies (w : World) : (awDB w.heap.size).lies (awWorld w) :=
  ⟨.inl rfl, slice_one (t := 50) _ (awW6 w) (aw_rows w), .inl rfl⟩
set_option maxRecDepth 100000 in
set_option maxHeartbeats 3200000 in
theorem awake_calls (w : World) (hA : Aw w) : Calls Tryz.prog 10 #[] w fun e w' => e = .returned (.bool true) ∧ Below w.heap.size w w' := by
  generalize hQ : (fun (e : Ending) (w' : World) => e = .returned (.bool true) ∧ Below w.heap.size w w') = Q
  have HQ := Lib.hid (fun w' (hb : Below w.heap.size w w') => show Q (.returned (.bool true)) w' from hQ ▸ ⟨rfl, hb⟩)
  clear hQ
  have hB0 := awWorld_below w
  have hfa : (awDA w.heap.size).fits := aw_fits 0 _ rfl
  have hfb : (awDB w.heap.size).fits := aw_fits 2 _ rfl
  have hAW := hA.below hB0
  have hda := awDA_lies w
  have hdb := awDB_lies w
  have HD := Lib.hid ((diff_calls (awDA w.heap.size) (awDB w.heap.size) (awWorld w) hAW.1 hda hdb hfa hfb).mono DiffForm.of)
  have HL := Lib.hid (fun (xs : List Chg) (h : xs.map Chg.c = diffList (awDA w.heap.size) (awDB w.heap.size)) => list_ok hfa hfb h)
  have he0 : diffErr (awDA w.heap.size) (awDB w.heap.size) = 0 := (aw_diff ..).2
  have hl0 : diffList (awDA w.heap.size) (awDB w.heap.size) = [awC1, awC2] := (aw_diff ..).1
  unfold DiffForm at HD
  rw [he0] at HD
  rw [hl0] at HD HL
  have HP := Lib.hid (fun (w1 : World) (A : Option Addr) (c : Nat) (xs : List Chg) (hb : Below (awWorld w).heap.size (awWorld w) w1) (hx : ChgAt w1 A xs) (hxc : xs.map Chg.c = [awC1, awC2]) =>
    patch_calls (fun k d => d.c = awStC k) (fun _ => False) (awDA w.heap.size) A c xs w1 (hAW.below hb).1 (Doc.later hda hb) hfa (awA_err ..) hx (HL.out xs hxc).2 (fun d' h => h.trans rfl) aw_fits
      (fun d' h h0 => absurd (awB_like none none none none none 0 0 0 0 0 d' (by
        have hn : xs.length = 2 := by have := congrArg List.length hxc; simpa using this
        rw [hn] at h
        exact h)) h0) (fun k x d' g w' h1 h2 h3 h4 => aw_step k x xs d' g w' hxc h1 h2 h3 h4))
  have HT := Lib.hid (fun (w1 : World) (A : Option Addr) (c : Nat) (xs : List Chg) (hb : Below (awWorld w).heap.size (awWorld w) w1) (hx : ChgAt w1 A xs) (hxc : xs.map Chg.c = [awC1, awC2]) => aw_text_calls A c xs w1 (hAW.below hb).2 hx hxc)
  have HS := Lib.hid (fun (d' : Doc) (w1 : World) (hb : Below (awWorld w).heap.size (awWorld w) w1) (h : d'.lies w1) (hc : d'.c = awStC 2) =>
    have hf' := aw_fits 2 d' hc
    docSame_true d' (awDB w.heap.size) w1 h (Doc.later hdb hb) (hc.trans rfl) (doc_rows hf') (doc_rows hfb) hf'.2.2.2.2.2.2.1 hf'.2.2.2.2.2.2.2.2.1 hfb.2.2.2.2.2.2.2.2.1 hf'.2.2.2.2.2.2.2.2.2.2)
  have h5 := awW5 w
  have h7 := awW7 w
  have hsz := awWorld_size w
  have HW := Lib.hid (show ((((((((w.alloc (.cells #[Value.string ⟨#[84, 79, 80]⟩, .int .i64 1, .int .i64 2, .int .i64 0, .int .i64 32, .int .u8 1, .bool false] 44)).alloc (.cells #[Value.string ⟨#[65]⟩, .int .u8 0, .bool false, .bool false, .string ⟨#[]⟩] 75)).alloc (.cells #[Value.slice (some ⟨w.heap.size + 1, 0, none⟩) 1 1] 78)).alloc (.cells #[Value.string ⟨#[84, 79, 80]⟩, .int .i64 1, .int .i64 2, .int .i64 0, .int .i64 32, .int .u8 1, .bool false] 44)).alloc (.cells #[Value.int .i64 1, .int .i64 0, .int .i64 9, .string ⟨#[84, 79, 80]⟩, .int .u8 1, .string ⟨#[]⟩, .slice (some ⟨w.heap.size + 1 + 1, 0, none⟩) 1 1] 50)).alloc (.cells #[Value.string ⟨#[]⟩, .string ⟨#[]⟩, .int .u8 3, .bool false, .int .i64 1, .slice (some ⟨w.heap.size + 1 + 1 + 1, 0, none⟩) 1 1, .slice (some ⟨w.heap.size + 1 + 1 + 1 + 1, 0, none⟩) 1 1, .slice none 0 0] 27)).alloc (.cells #[Value.int .i64 1, .int .i64 1, .int .i64 9, .string ⟨#[]⟩, .int .u8 1, .string ⟨#[]⟩, .slice (some ⟨w.heap.size + 1 + 1, 0, none⟩) 1 1] 50)).alloc (.cells #[Value.string ⟨#[]⟩, .string ⟨#[]⟩, .int .u8 3, .bool false, .int .i64 1, .slice none 0 0, .slice (some ⟨w.heap.size + 1 + 1 + 1 + 1 + 1 + 1, 0, none⟩) 1 1, .slice none 0 0] 27)) = awWorld w from rfl)
  clear hA hfa hfb hAW hda hdb he0 hl0 HL
  go_enter Tryz.func10, Tryz.ntmps10
  go_upto_region 5 with fail
  rw [HW.out]
  have q5 : (awWorld w).heap[w.heap.size + 1 + 1 + 1 + 1 + 1]? = some (.cells (awDA w.heap.size).enc.toArray 27 (0, 0)) := h5
  have q7 : (awWorld w).heap[w.heap.size + 1 + 1 + 1 + 1 + 1 + 1 + 1]? = some (.cells (awDB w.heap.size).enc.toArray 27 (0, 0)) := h7
  clear h5 h7 HW
  generalize w.heap.size + 1 + 1 + 1 + 1 + 1 + 1 + 1 = p7 at *
  generalize w.heap.size + 1 + 1 + 1 + 1 + 1 = p5 at *
  have hB1 : Below (awWorld w).heap.size (awWorld w) (awWorld w) := Below.refl _ _
  have HBW := Lib.hid (fun (w1 : World) (h : Below (awWorld w).heap.size (awWorld w) w1) => hB0.trans (h.mono (by omega)))
  generalize awWorld w = W1 at *
  have HR5 := Lib.hid (fun (w1 : World) (h : Below W1.heap.size W1 w1) => range_row ((h.block p5 (Array.getElem?_eq_some_iff.1 q5).1).trans q5))
  have HR7 := Lib.hid (fun (w1 : World) (h : Below W1.heap.size W1 w1) => range_row ((h.block p7 (Array.getElem?_eq_some_iff.1 q7).1).trans q7))
  have HI5 := Lib.hid (show (Tryz.prog.info? 27).map (·.size) = some (awDA w.heap.size).enc.length from size27)
  have HI7 := Lib.hid (show (Tryz.prog.info? 27).map (·.size) = some (awDB w.heap.size).enc.length from size27)
  have c7 : ∀ (w1 : World), Below W1.heap.size W1 w1 → ∀ (j : Nat), w1.cell? ⟨p7, j, none⟩ = (#[Value.string ⟨#[]⟩, .string ⟨#[]⟩, .int .u8 3, .bool false, .int .i64 1, .slice none 0 0, .slice (some ⟨w.heap.size + 6, 0, none⟩) 1 1, .slice none 0 0] : Array Value)[j]? := fun w1 h j => cell_of_row _ _ j _ 27 (0, 0) ((h.block p7 (Array.getElem?_eq_some_iff.1 q7).1).trans q7)
  have HS' := Lib.hid (fun (d' : Doc) (w1 : World) hb h hc => (show Calls Tryz.prog 18 #[.agg d'.enc.toArray, .agg #[Value.string ⟨#[]⟩, .string ⟨#[]⟩, .int .u8 3, .bool false, .int .i64 1, .slice none 0 0, .slice (some ⟨w.heap.size + 6, 0, none⟩) 1 1, .slice none 0 0]] w1 (fun e w' => e = .returned (.bool true) ∧ Below w1.heap.size w1 w') from HS.out d' w1 hb h hc))
  have HB1 := Lib.hid hB1
  clear HS hB0 q5 q7 hB1
  generalize (awDA w.heap.size).enc = da at *
  generalize (awDB w.heap.size).enc = db at *
  go_wp2_with (first | (refine wpList_load_mid rfl 27 (.tmp 3) rfl p5 0 rfl da _ (HR5.out _ HB1.out) Tryz.underlying27 rfl HI5.out ?_) | (refine wpList_load_mid rfl 27 (.tmp 4) rfl p7 0 rfl db _ (HR7.out _ HB1.out) Tryz.underlying27 rfl HI7.out ?_))
  refine HD.out.mono ?_
  rintro e w2 ⟨A, xs, c, rfl, hx, hxc, hb2⟩
  have HB2 := Lib.hid hb2
  have HX := Lib.hid hx
  have HXC := Lib.hid hxc
  clear hb2 hx hxc HD
  go_wp2_with (refine wpList_load_mid rfl 27 (.tmp 3) rfl p5 0 rfl da _ (HR5.out _ HB2.out) Tryz.underlying27 rfl HI5.out ?_)
  refine (HP.out w2 A c xs HB2.out HX.out HXC.out).mono ?_
  rintro e w3 (⟨err, hF, _⟩ | ⟨d', hfin, h0, rfl, hl', hu', hb3⟩)
  · exact hF.elim
  have hfin' : d'.c = awStC 2 := by
    have hn : xs.length = 2 := by have := congrArg List.length HXC.out; simpa using this
    rw [hn] at hfin
    exact hfin
  have hb3' := HB2.out.trans (hb3.mono HB2.out.size)
  have hw4 : Below w3.heap.size w3 (w3.alloc (.cells d'.enc.toArray 27)) := (Below.refl _ _).alloc (Nat.le_refl _) _
  have hb4 := hb3'.trans (hw4.mono hb3'.size)
  have HT4 := Lib.hid (HT.out _ A c xs hb4 (SliceOf.keeps Chg.keeps _ _ _ _ (hb3.trans (hw4.mono hb3.size)) HX.out) HXC.out)
  have HK4 := Lib.hid (heap_alloc_last w3 (.cells d'.enc.toArray 27))
  have HSS := Lib.hid (fun (w5 : World) (h : Below (w3.alloc (.cells d'.enc.toArray 27)).heap.size (w3.alloc (.cells d'.enc.toArray 27)) w5) => HS'.out d' w5 (hb4.trans (h.mono hb4.size)) (Doc.later hl' (hw4.trans (h.mono hw4.size))) hfin')
  have HFI := Lib.hid (fun (w5 : World) (h : Below (w3.alloc (.cells d'.enc.toArray 27)).heap.size (w3.alloc (.cells d'.enc.toArray 27)) w5) => HBW.out w5 (hb4.trans (h.mono hb4.size)))
  have c7' := fun (w5 : World) (h : Below (w3.alloc (.cells d'.enc.toArray 27)).heap.size (w3.alloc (.cells d'.enc.toArray 27)) w5) => c7 w5 (hb4.trans (h.mono hb4.size))
  have HDI := Lib.hid (show (Tryz.prog.info? 27).map (·.size) = some d'.enc.toArray.size from size27)
  have HD1 := Lib.hid (one_all (Doc.one d'))
  clear hfin hfin' h0 hl' hu' hb3 hb3' hw4 hb4 HT HP HS' HB2 HX HXC c7 HBW HB1
  obtain ⟨title, lang, rate, drop, last, ra, rc, regs, ea, ec, evs, ca, cc, cms⟩ := d'
  simp only [Doc.enc] at *
  go_upto_region 7 with fail
  have hb0 : Below (w3.alloc (.cells #[Value.string title, .string lang, .int .u8 rate, .bool drop, .int .i64 last, .slice ra regs.length rc, .slice ea evs.length ec, .slice ca cms.length cc] 27)).heap.size (w3.alloc (.cells #[Value.string title, .string lang, .int .u8 rate, .bool drop, .int .i64 last, .slice ra regs.length rc, .slice ea evs.length ec, .slice ca cms.length cc] 27)) (w3.alloc (.cells #[Value.string title, .string lang, .int .u8 rate, .bool drop, .int .i64 last, .slice ra regs.length rc, .slice ea evs.length ec, .slice ca cms.length cc] 27)) := Below.refl _ _
  have cA : ∀ (w5 : World), Below (w3.alloc (.cells #[Value.string title, .string lang, .int .u8 rate, .bool drop, .int .i64 last, .slice ra regs.length rc, .slice ea evs.length ec, .slice ca cms.length cc] 27)).heap.size (w3.alloc (.cells #[Value.string title, .string lang, .int .u8 rate, .bool drop, .int .i64 last, .slice ra regs.length rc, .slice ea evs.length ec, .slice ca cms.length cc] 27)) w5 → ∀ (j : Nat), w5.cell? ⟨w3.heap.size, j, none⟩ = (#[Value.string title, .string lang, .int .u8 rate, .bool drop, .int .i64 last, .slice ra regs.length rc, .slice ea evs.length ec, .slice ca cms.length cc] : Array Value)[j]? := fun w5 h j => cell_of_row _ _ j _ 27 (0, 0) ((h.block w3.heap.size (by simp)).trans HK4.out)
  clear HK4 HDI HD1
  generalize w3.alloc (.cells #[Value.string title, .string lang, .int .u8 rate, .bool drop, .int .i64 last, .slice ra regs.length rc, .slice ea evs.length ec, .slice ca cms.length cc] 27) = w4 at *
  go_wp2_with fail
  refine HT4.out.mono ?_
  rintro e w5 ⟨rfl, hb5⟩
  have HS5 := Lib.hid (HSS.out w5 hb5)
  have HF5 := Lib.hid (fun (w6 : World) (h : Below w5.heap.size w5 w6) => HFI.out w6 (hb5.trans (h.mono hb5.size)))
  have k7 := c7' w5 hb5
  have kA := cA w5 hb5
  clear HT4 HSS HFI c7' cA hb0
  go_wp2_with fail
  refine HS5.out.mono ?_
  rintro e w6 ⟨rfl, hb6⟩
  have HE := Lib.hid (HQ.out _ (HF5.out _ hb6))
  clear HS5 HF5 k7 kA hb5 hb6
  go_wp2_with fail
  exact HE.out
end Go.Proofs.YtnlnmbcaongehaaGreatDoor
