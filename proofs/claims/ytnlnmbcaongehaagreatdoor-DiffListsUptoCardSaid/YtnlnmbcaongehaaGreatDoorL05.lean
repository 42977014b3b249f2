/- The contract of the reference's Names: the names of the regions of two documents, ascending. (printed by gen_names.py) The reference's region, FindComment, comment: the first element with a key. The contracts of the reference's Same and SameRows. -/
import Derived.Deep.RegionHeld3
import Derived.Deep.DeepCutAuto
import Derived.BigQuiet
import Derived.Deep.QuietTactic
import Derived.Test.YtnlnmbcaongehaaGreatDoorBase09
import Derived.Test.YtnlnmbcaongehaaGreatDoorL04
import Derived.Test.YtnlnmbcaongehaaGreatDoorBase08
import Derived.Test.YtnlnmbcaongehaaGreatDoorL00
import Derived.Test.YtnlnmbcaongehaaGreatDoorBase06
import Derived.Test.YtnlnmbcaongehaaGreatDoorL02
import Derived.Test.YtnlnmbcaongehaaGreatDoorBase05
import Derived.Test.YtnlnmbcaongehaaGreatDoorBase02
import Derived.Test.YtnlnmbcaongehaaGreatDoorBase01
import Derived.Test.YtnlnmbcaongehaaGreatDoorBase00
import Derived.Test.YtnlnmbcaongehaaGreatDoorBase03
set_option linter.unusedVariables false
set_option linter.unusedSimpArgs false
namespace Go.Proofs.YtnlnmbcaongehaaGreatDoor
open Go.RowKit
theorem strs_one (zs : List ByteArray) : ∀ u ∈ zs.map Value.string, u.oneCell' = true := by
  intro u hu
  obtain ⟨z, _, rfl⟩ := List.mem_map.1 hu
  rfl
theorem StrsB.form {B : Nat} {w : World} {v : Value} {zs : List ByteArray} (h : StrsB B w v zs) : ∃ a cap, v = .slice a zs.length cap ∧ Strs w a zs := by
  rcases h.1 with ⟨rfl, rfl⟩ | ⟨b, off, cap, rfl, h2, h3, _, h4⟩
  · exact ⟨none, 0, rfl, .inl rfl⟩
  · exact ⟨_, cap, rfl, h4⟩
theorem srcN_new (w : World) (s : ByteArray) : Src (w.alloc (.cells #[.string s] 9)) (.slice (some ⟨w.heap.size, 0, none⟩) 1 1) 1 [.string s] :=
  .inr ⟨_, _, rfl, fun j u hu => cells_new w #[.string s] 9 j u hu⟩
theorem srcN_kept {w w3 : World} {s : ByteArray} {row : Option Nat} (h : (w.alloc (.cells #[.string s] 9)).grownBy w3 row) (g : Nat) (hg : row = none ∧ g = w.heap.size) : Src w3 (.slice (some ⟨g, 0, none⟩) 1 1) 1 [.string s] := by
  obtain ⟨rfl, rfl⟩ := hg
  refine .inr ⟨_, _, rfl, fun j u hu => ?_⟩
  have h0 := cells_new w #[.string s] 9 j u hu
  rw [Addr.add_lit] at h0 ⊢
  exact h.cell h0 (by simp)
def NamesPost (zs : List ByteArray) (w : World) (e : Ending) (w' : World) : Prop := ∃ v, e = .returned v ∧ StrsB w.heap.size w' v zs ∧ Below w.heap.size w w'
set_option maxRecDepth 100000 in
set_option maxHeartbeats 12800000 in
theorem names_calls (d d' : Doc) (w : World) (hr : Regs w d.ra d.regs) (hr' : Regs w d'.ra d'.regs) (hl : d.regs.length ≤ 4000000) (hl' : d'.regs.length ≤ 4000000) :
    Calls Tryz.prog 46 #[.agg d.enc.toArray, .agg d'.enc.toArray] w (NamesPost (insNames [] (d.regs ++ d'.regs)) w) := by
  obtain ⟨j0, hj, hy0, hy1, hy2⟩ := info_parts Tryz.info9
  have JI := Lib.hid hj; have J0 := Lib.hid hy0; have J1 := Lib.hid hy1; have J2 := Lib.hid hy2
  obtain ⟨i0, hi, hx0, hx1, hx2⟩ := info_parts Tryz.info44
  have II := Lib.hid hi; have I0 := Lib.hid hx0; have I1 := Lib.hid hx1; have I2 := Lib.hid hx2
  clear hj hy0 hy1 hy2 hi hx0 hx1 hx2
  have HRA := Lib.hid hr
  have HRB := Lib.hid hr'
  have HQ := Lib.hid (fun (v : Value) (w' : World) (h : StrsB w.heap.size w' v (insNames [] (d.regs ++ d'.regs))) (hb : Below w.heap.size w w') => (show NamesPost (insNames [] (d.regs ++ d'.regs)) w (.returned v) w' from ⟨v, rfl, h, hb⟩))
  generalize NamesPost (insNames [] (d.regs ++ d'.regs)) w = Q at *
  obtain ⟨title, lang, rate, drop, last, ra, rc, regs, ea, ec, evs, ca, cc, cms⟩ := d
  obtain ⟨title', lang', rate', drop', last', ra', rc', regs', ea', ec', evs', ca', cc', cms'⟩ := d'
  simp only at HRA HRB hl hl' HQ
  simp only [Doc.enc]
  obtain ⟨RS, hRS⟩ : ∃ RS, RS = regs ++ regs' := ⟨_, rfl⟩
  have hRL : RS.length ≤ 8000000 := by rw [hRS, List.length_append]; omega
  rw [← hRS] at HQ
  have HRS := Lib.hid hRS
  clear hRS
  have HZ := Lib.hid (show insNames [] (RS.drop 0) = insNames [] RS from rfl)
  generalize insNames [] RS = Z1 at *
  clear hr hr'
  generalize hds : #[Value.string title, .string lang, .int .u8 rate, .bool drop, .int .i64 last, .slice ra regs.length rc, .slice ea evs.length ec, .slice ca cms.length cc] = ds at *
  generalize hes : #[Value.string title', .string lang', .int .u8 rate', .bool drop', .int .i64 last', .slice ra' regs'.length rc', .slice ea' evs'.length ec', .slice ca' cms'.length cc'] = es at *
  have f5 := box2_fst w ds es 27 27 5 (.slice ra regs.length rc) (by rw [← hds]; rfl)
  have g5 := box2_snd w ds es 27 27 5 (.slice ra' regs'.length rc') (by rw [← hes]; rfl)
  have HB := Lib.hid (fun (w1 : World) (h : Below (w.heap.size + 2) ((w.alloc (.cells ds 27)).alloc (.cells es 27)) w1) => box2_below h)
  have hb0 : Below (w.heap.size + 2) ((w.alloc (.cells ds 27)).alloc (.cells es 27)) ((w.alloc (.cells ds 27)).alloc (.cells es 27)) := Below.refl _ _
  have hsz : ((w.alloc (.cells ds 27)).alloc (.cells es 27)).heap.size = w.heap.size + 2 := by simp
  generalize hW0 : (w.alloc (.cells ds 27)).alloc (.cells es 27) = W0 at *
  have HW0 := Lib.hid hW0
  have HSZ := Lib.hid hsz
  have HLT := Lib.hid (fun (w1 : World) (h : Below (w.heap.size + 2) W0 w1) => (show w.heap.size + 2 ≤ w1.heap.size by have := h.size; rw [HSZ.out] at this; exact this))
  have HT0 := Lib.hid (fun (w2 w3 : World) (h : Below (w.heap.size + 2) W0 w2) (h3 : Below w2.heap.size w2 w3) => h.trans (h3.mono (HLT.out _ h)))
  have hD0 : Below (w.heap.size + 2) W0 W0.drew := (Below.refl _ _).drew
  have HDA0 := Lib.hid (fun o => (hD0.alloc (HLT.out _ hD0) o : Below (w.heap.size + 2) W0 (W0.drew.alloc o)))
  have HO0 := Lib.hid (show (W0.drew.alloc (.cells #[] 44)).ownsRow (w.heap.size + 2) 44 7 (.slice (some ⟨W0.drew.heap.size, 0, none⟩) 0 0) 0 [] from World.ownsRow_lit (size := 7) W0.drew #[] 0 (HLT.out _ hD0) (by unfold maxLen; omega) rfl)
  clear hW0 hsz
  go_enter Tryz.func46, Tryz.ntmps46
  subst hds
  subst hes
  go_wp2_with fail
  rw [HW0.out]
  go_region_held3 (fun w' => Below (w.heap.size + 2) W0 w') (first | with_reducible assumption | with_reducible exact hD0 | exact HDA0.out _) (first
    | (refine step_append_slice (enc := Reg.enc) (Ok := Flat) (W0.drew.alloc (.cells #[] 44)) rfl (.tmp 10) (.tmp 12) 23 rfl (w.heap.size + 2) 44 i0 _ 7 56 Tryz.underlying23 II.out I0.out I1.out I2.out rfl (by decide) (fun _ => rfl) Reg.one (.slice (some ⟨W0.drew.heap.size, 0, none⟩) 0 0) 0 [] (by go_simp) HO0.out ra rc regs (by go_simp) (HRA.out.later (HB.out _ (HDA0.out _))) (by unfold maxLen; omega) (by omega) (HLT.out _ (HDA0.out _)) ?_; intro v1 w3 hown1 hgrow1 hat1; have hb3 : Below (w.heap.size + 2) W0 w3 := (HDA0.out _).grown hgrow1 (HLT.out _ (HDA0.out _)) (fun b hb => by have e : W0.drew.heap.size = b := Option.some.inj hb; rw [← e]; exact HLT.out _ hD0); have HO1 := Lib.hid hown1; have HLT1 := Lib.hid (fun j hj => (hown1.lt j hj).1); clear hown1 hgrow1 hat1)
    | (refine step_append_slice (enc := Reg.enc) (Ok := Flat) w3 rfl (.tmp 13) (.tmp 15) 23 rfl (w.heap.size + 2) 44 i0 _ 7 56 Tryz.underlying23 II.out I0.out I1.out I2.out rfl (by decide) (fun _ => rfl) Reg.one v1 _ _ (by go_simp) HO1.out ra' rc' regs' (by go_simp) (HRB.out.later (HB.out _ hb3)) (by unfold maxLen; omega) (by omega) (HLT.out _ hb3) ?_; intro v2 w4 hown2 hgrow2 hat2; have hb4 : Below (w.heap.size + 2) W0 w4 := hb3.grown hgrow2 (HLT.out _ hb3) HLT1.out; have HO2 := Lib.hid hown2; obtain ⟨a16, c16, hv2, hS16⟩ := sliceOf_owns (k := 7) (enc := Reg.enc) (Ok := Flat) (xs := RS) (fun _ => rfl) (show w4.ownsRow (w.heap.size + 2) 44 7 v2 RS.length (RS.flatMap Reg.enc) by rw [HRS.out, List.length_append, List.flatMap_append]; simpa using hown2) (fun _ _ => trivial); subst hv2; have HS16 := Lib.hid hS16; clear hown2 hgrow2 hat2 hS16))
  all_goals
    have HRL := Lib.hid hRL
    have HB4 := Lib.hid hb4
    clear HRS
    go_wp2_with fail
    go_loopw [5, 18] (fun v i wr => ∃ (q : Nat) (zs : List ByteArray), q ≤ RS.length ∧ i = .int .i64 q ∧ StrsB w.heap.size wr v zs ∧ zs.length ≤ q ∧ insNames zs (RS.drop q) = Z1 ∧ Below w4.heap.size w4 wr) (fun _ i _ => RS.length - (intOf i).toNat)
    case atStart => exact ⟨0, [], by omega, rfl, ⟨.inl ⟨rfl, rfl⟩, fun b hb => by simp [Value.ownBlock] at hb⟩, by simp, HZ.out, Below.refl _ _⟩
    case round =>
      obtain ⟨q, zs, hq, rfl, hI, hzl, hp, hb⟩ := hrel
      have HBR := Lib.hid hb
      clear HZ
      by_cases hlt : q < RS.length
      · obtain ⟨rb, roff, x, rfl, hbl, hxk, hc, _⟩ := (SliceOf.keeps Flat.keeps _ _ _ _ hb HS16.out).at_ hlt
        rw [drop_at RS q x hxk, insNames] at hp
        obtain ⟨nm, top, height, left, width, align, bottom⟩ := x
        have d0 := hc 0 _ rfl; have d1 := hc 1 _ rfl; have d2 := hc 2 _ rfl; have d3 := hc 3 _ rfl; have d4 := hc 4 _ rfl; have d5 := hc 5 _ rfl; have d6 := hc 6 _ rfl
        simp only [Nat.add_zero] at d0 d1 d2 d3 d4 d5 d6 hp
        obtain ⟨w5, hw5⟩ : ∃ w5, w5 = wr.alloc (.cells #[.string nm, .int .i64 top, .int .i64 height, .int .i64 left, .int .i64 width, .int .u8 align, .bool bottom] 44) := ⟨_, rfl⟩
        have HW5 := Lib.hid hw5
        have hwr : Below wr.heap.size wr w5 := hw5 ▸ (Below.refl _ _).alloc (Nat.le_refl _) _
        have HB5 := Lib.hid (fun (w' : World) (h : Below w5.heap.size w5 w') => (hb.trans (hwr.mono hb.size)).trans (h.mono (Nat.le_trans hb.size hwr.size)))
        have hk5 : w5.heap[wr.heap.size]? = some (.cells #[.string nm, .int .i64 top, .int .i64 height, .int .i64 left, .int .i64 width, .int .u8 align, .bool bottom] 44 (0, 0)) := hw5 ▸ heap_alloc_last wr _
        have hl5 : wr.heap.size < w5.heap.size := by rw [hw5]; simp
        have bx : ∀ (w' : World), Below w5.heap.size w5 w' → ∀ (j : Nat), w'.cell? ⟨wr.heap.size, j, none⟩ = _ := fun w' h j => cell_of_row _ _ j _ 44 (0, 0) ((h.block _ hl5).trans hk5)
        have b00 : Below w5.heap.size w5 w5 := Below.refl _ _
        have hBw : w.heap.size ≤ w5.heap.size := by have h1 := HLT.out _ HB4.out; have h2 := hb.size; omega
        have HBW := Lib.hid hBw
        replace hI := hI.later hwr
        have HV0 := Lib.hid hI
        have hln := putS_len nm zs
        have HLN := Lib.hid hln
        have O3 := Lib.hid (show ∀ u ∈ [Value.string nm], u.oneCell' = true by intro u hu; simp at hu; subst hu; rfl)
        have HP := Lib.hid hp
        have H0 := Lib.hid (show zs.take 0 ++ putS (zs.drop 0) nm = putS zs nm by simp)
        have FACTS := fun (k : Nat) (hk : k ≤ zs.length) (hn : ∀ z, zs[k]? = some z → Op.bytesLess z.toList nm.toList = false ∧ (z.toList == nm.toList) = false) (hp : zs.take k ++ putS (zs.drop k) nm = putS zs nm) =>
          (show (putS zs nm).length = zs.length + 1 ∧ [] ++ (zs.take k).map Value.string ++ [.string nm] ++ (zs.drop k).map Value.string = (putS zs nm).map Value.string by
            rw [putS_new zs nm k hn hp]
            constructor
            · simp; omega
            · simp)
        clear hc hxk hp hw5 hk5 hwr hBw
        obtain ⟨hI1, hI2⟩ := hI
        clear hI2
        rcases hI1 with ⟨rfl, rfl⟩ | ⟨b, off, cap, rfl, hbl2, hcap, hcm, hIn⟩
        · have M2 := Lib.hid (show 0 + 1 ≤ maxLen by unfold maxLen; omega)
          have M3 := Lib.hid (show 0 + 1 + 0 ≤ maxLen by unfold maxLen; omega)
          clear FACTS H0
          rw [show putS [] nm = [nm] from rfl] at HP HLN hln
          go_wp2_with fail
          rw [← HW5.out]
          clear d0 d1 d2 d3 d4 d5 d6
          refine wp_loop_rounds 1 ?_
          rw [rounds_succ]
          go_wp2_with fail
          go_quiet (fail)
          go_wp2_with fail
          go_quiet (fail)
          go_wp2_with fail
          generalize hw9 : World.drewN (World.drewN w5 _) _ = w9
          have h9 : Below w5.heap.size w5 w9 := hw9 ▸ below_drewN (below_drewN b00 _) _
          have hD : Below w5.heap.size w5 w9.drew := h9.drew
          have HDA := Lib.hid (fun (o : Obj) => (hD.alloc hD.size o : Below w5.heap.size w5 (w9.drew.alloc o)))
          have HNL := Lib.hid (rfl : w9.heap.size = w9.drew.heap.size)
          clear hw9
          go_region_held3 (fun w' => Below w5.heap.size w5 w') (first | with_reducible assumption | with_reducible exact hD | exact HDA.out _ | exact hb6.alloc HS3.out _ | fail) (first
            | (refine step_src rfl (.tmp 54) (.tmp 57) 55 rfl w5.heap.size 9 j0 _ 1 16 Tryz.underlying55 JI.out J0.out J1.out J2.out rfl (by decide) (.slice none 0 0) 0 [] (by go_simp) (World.ownsRow_nil _ _ _ _) (.slice (some ⟨w9.heap.size, 0, none⟩) 1 1) 1 [.string nm] (by go_simp) (srcN_new w9.drew nm) rfl O3.out M2.out (by omega) (HDA.out _).size ?_; intro v2 w7 hown2 hgrow2; have hb7 : Below w5.heap.size w5 w7 := (HDA.out _).grown hgrow2 (HDA.out _).size (by intro j hj; simp [Value.ownBlock] at hj); have HO2 := Lib.hid hown2; have HLT2 := Lib.hid (fun j hj => (hown2.lt j hj).1); have HS4 := Lib.hid hb7.size; clear hown2 hgrow2)
            | (refine step_src rfl (.tmp 58) (.tmp 61) 55 rfl w5.heap.size 9 j0 _ 1 16 Tryz.underlying55 JI.out J0.out J1.out J2.out rfl (by decide) v2 _ _ (by go_simp) HO2.out (.slice none 0 0) 0 [] (by go_simp) (.inl ⟨rfl, rfl, rfl⟩) rfl (by simp) M3.out (by omega) HS4.out ?_; intro v3 w8 hown3 hgrow3; have hb8 : Below w5.heap.size w5 w8 := hb7.grown hgrow3 HS4.out HLT2.out; have HO3 := Lib.hid hown3; clear hown3 hgrow3))
          all_goals
            have HV := Lib.hid (StrsB.of_owns (zs := [nm]) HBW.out HO3.out)
            have HB8 := Lib.hid (HB5.out _ hb8)
            clear HO3
            obtain ⟨a5, c5, hv5, _⟩ := HV.out.form
            subst hv5
            go_wp2_with fail
            go_roundw
            case rel => exact ⟨q + 1, _, by omega, by go_num, HV.out, by have := HLN.out; omega, HP.out, HB8.out⟩
            case measure => simp [intOf]; omega
        · have HIN := Lib.hid hIn
          clear hIn
          go_wp2_with fail
          rw [← HW5.out]
          clear d0 d1 d2 d3 d4 d5 d6
          obtain ⟨wo, rfl⟩ : ∃ wo : World, wo = wr := ⟨_, rfl⟩
          go_loopw [8] (fun i wq => ∃ k : Nat, k ≤ zs.length ∧ i = .int .i64 k ∧ zs.take k ++ putS (zs.drop k) nm = putS zs nm ∧ Below w5.heap.size w5 wq) (fun i _ => zs.length - (intOf i).toNat)
          case atStart => exact ⟨0, by omega, rfl, H0.out, b00⟩
          case round =>
            obtain ⟨wq, rfl⟩ : ∃ wq : World, wq = wr := ⟨_, rfl⟩
            obtain ⟨k, hk, rfl, hp, hbq⟩ := hrel
            have hbn := fun (n : Nat) => below_drewN hbq n
            have HSS := Lib.hid (fun (hx : ∀ z, zs[k]? = some z → Op.bytesLess z.toList nm.toList = false ∧ (z.toList == nm.toList) = false) => FACTS k hk hx hp)
            have HS1 := Lib.hid (fun (w1 : World) (h : Below w5.heap.size w5 w1) => (show Src w1 (.slice (some ⟨b, off, none⟩) k cap) k ((zs.take k).map Value.string) from .inr ⟨_, _, rfl, fun j u hu => by
              rw [Addr.add_lit]
              refine Strs.cells (SliceOf.keeps Flat.keeps _ _ _ _ h HIN.out) j u ?_
              rw [← List.take_append_drop k zs, List.map_append, List.getElem?_append_left (List.getElem?_eq_some_iff.1 hu).1]
              exact hu⟩))
            obtain ⟨A, hA, hsA⟩ : ∃ A : Addr, (if cap = k then some (⟨b, off, none⟩ : Addr) else some ⟨b, off + k, none⟩) = some A ∧ Hid (∀ w1, Below w5.heap.size w5 w1 → Src w1 (.slice (some A) (zs.length - k) (cap - k)) (zs.length - k) ((zs.drop k).map Value.string)) := by
              by_cases hq : cap = k
              · refine ⟨⟨b, off, none⟩, by simp [hq], fun w1 h => .inr ⟨_, _, rfl, fun j u hu => ?_⟩⟩
                have := (List.getElem?_eq_some_iff.1 hu).1
                simp at this
                omega
              · refine ⟨⟨b, off + k, none⟩, by simp [hq], fun w1 h => .inr ⟨_, _, rfl, fun j u hu => ?_⟩⟩
                rw [Addr.add_lit, show off + k + j = off + (k + j) by omega]
                refine Strs.cells (SliceOf.keeps Flat.keeps _ _ _ _ h HIN.out) (k + j) u ?_
                rw [List.getElem?_map] at hu ⊢
                rw [List.getElem?_drop] at hu
                exact hu
            have HS2 := hsA
            have L1 := Lib.hid (show ((zs.take k).map Value.string).length = k * 1 by simp; omega)
            have L2 := Lib.hid (show ((zs.drop k).map Value.string).length = (zs.length - k) * 1 by simp)
            have O1 := Lib.hid (strs_one (zs.take k))
            have O2 := Lib.hid (strs_one (zs.drop k))
            have M1 := Lib.hid (show 0 + k ≤ maxLen by unfold maxLen; omega)
            have M2 := Lib.hid (show 0 + k + 1 ≤ maxLen by unfold maxLen; omega)
            have M3 := Lib.hid (show 0 + k + 1 + (zs.length - k) ≤ maxLen by unfold maxLen; omega)
            have hkc : k ≤ cap := by omega
            have hkn : (k : Int) ≤ (zs.length : Int) := by omega
            clear H0
            by_cases hlt2 : k < zs.length
            · obtain ⟨b', off', z, he, _, hz, hc, _⟩ := HIN.out.at_ hlt2
              simp only [Option.some.injEq, Addr.mk.injEq, and_true] at he
              obtain ⟨rfl, rfl⟩ := he
              have HC0 := Lib.hid (fun (w' : World) (h : Below w5.heap.size w5 w') => (h.cell (p := ⟨b, off + k * 1 + 0, none⟩) (by assumption)).trans (hc 0 _ rfl))
              have d0 := HC0.out
              simp only [Nat.add_zero, Nat.mul_one] at d0
              cases hlz : Op.bytesLess z.toList nm.toList with
              | true =>
                have HP2 := Lib.hid (putS_less zs nm k z hz hlz hp)
                clear hp hc hz HSS FACTS HC0
                go_wp2_with fail
                go_quiet (fail)
                go_wp2_with fail
                go_roundw
                case rel => exact ⟨k + 1, by omega, by go_num, HP2.out, hbn _⟩
                case measure => simp [intOf]; omega
              | false =>
                cases hez : (z.toList == nm.toList) with
                | true =>
                  have HE := Lib.hid (putS_eq zs nm k z hz hlz hez hp)
                  have HV := Lib.hid (show StrsB w.heap.size w5 (.slice (some ⟨b, off, none⟩) zs.length cap) (putS zs nm) from by rw [HE.out]; exact HV0.out)
                  have HB9 := Lib.hid (fun (n : Nat) => HB5.out _ (hbn n))
                  have HV9 := Lib.hid (fun (n : Nat) => HV.out.later (hbn n))
                  clear hp hc hz HSS FACTS HC0 HV
                  go_wp2_with fail
                  go_quiet (fail)
                  go_wp2_with fail
                  go_quiet (fail)
                  go_wp2_with fail
                  go_roundw
                  case rel => exact ⟨q + 1, _, by omega, by go_num, HV9.out _, by have := HLN.out; omega, HP.out, HB9.out _⟩
                  case measure => simp [intOf]; omega
                | false =>
                  have hF := HSS.out (fun y hy => by rw [hz] at hy; obtain rfl : z = y := by simpa using hy
                                                     exact ⟨hlz, hez⟩)
                  have HLEN := Lib.hid hF.1
                  have HJ := Lib.hid hF.2
                  clear hp hc hz HSS FACTS hF HC0
                  go_wp2_with fail
                  go_quiet (fail)
                  go_wp2_with fail
                  go_quiet (fail)
                  go_wp2_with fail
                  generalize hw9 : World.drewN (World.drewN wq _) _ = w9
                  have h9 : Below w5.heap.size w5 w9 := hw9 ▸ below_drewN (below_drewN hbq _) _
                  have hD : Below w5.heap.size w5 w9.drew := h9.drew
                  have HDA := Lib.hid (fun (o : Obj) => (hD.alloc hD.size o : Below w5.heap.size w5 (w9.drew.alloc o)))
                  have HNL := Lib.hid (rfl : w9.heap.size = w9.drew.heap.size)
                  clear hw9
                  go_region_held3 (fun w' => Below w5.heap.size w5 w') (first | with_reducible assumption | with_reducible exact hD | exact HDA.out _ | exact hb6.alloc HS3.out _ | fail) (first
                    | (refine step_src rfl (.tmp 50) (.tmp 53) 55 rfl w5.heap.size 9 j0 _ 1 16 Tryz.underlying55 JI.out J0.out J1.out J2.out rfl (by decide) (.slice none 0 0) 0 [] (by go_simp) (World.ownsRow_nil _ _ _ _) (.slice (some ⟨b, off, none⟩) k cap) k ((zs.take k).map Value.string) (by go_simp) (HS1.out _ hD) L1.out O1.out M1.out (by omega) hD.size ?_; intro v1 w6 hown1 hgrow1; have hb6 : Below w5.heap.size w5 w6 := hD.grown hgrow1 hD.size (by intro j hj; simp [Value.ownBlock] at hj); have HO1 := Lib.hid hown1; have HLT1 := Lib.hid (fun j hj => (hown1.lt j hj).1); have HS3 := Lib.hid hb6.size; clear hown1 hgrow1)
                    | (refine step_src rfl (.tmp 50) (.tmp 53) 55 rfl w5.heap.size 9 j0 _ 1 16 Tryz.underlying55 JI.out J0.out J1.out J2.out rfl (by decide) (.slice none 0 0) 0 [] (by go_simp) (World.ownsRow_nil _ _ _ _) (.slice (some ⟨b, off, none⟩) k cap) k ((zs.take k).map Value.string) (by go_simp) (HS1.out _ (HDA.out _)) L1.out O1.out M1.out (by omega) (HDA.out _).size ?_; intro v1 w6 hown1 hgrow1; have hb6 : Below w5.heap.size w5 w6 := (HDA.out _).grown hgrow1 (HDA.out _).size (by intro j hj; simp [Value.ownBlock] at hj); have HO1 := Lib.hid hown1; have HSK := Lib.hid (srcN_kept (w := w9.drew) hgrow1 w9.heap.size ⟨rfl, rfl⟩); have HLT1 := Lib.hid (fun j hj => (hown1.lt j hj).1); have HS3 := Lib.hid hb6.size; clear hown1 hgrow1)
                    | (refine step_src rfl (.tmp 54) (.tmp 57) 55 rfl w5.heap.size 9 j0 _ 1 16 Tryz.underlying55 JI.out J0.out J1.out J2.out rfl (by decide) v1 _ _ (by go_simp) HO1.out (.slice (some ⟨w9.heap.size, 0, none⟩) 1 1) 1 [.string nm] (by go_simp) HSK.out rfl O3.out M2.out (by omega) HS3.out ?_; intro v2 w7 hown2 hgrow2; have hb7 : Below w5.heap.size w5 w7 := hb6.grown hgrow2 HS3.out HLT1.out; have HO2 := Lib.hid hown2; have HLT2 := Lib.hid (fun j hj => (hown2.lt j hj).1); have HS4 := Lib.hid hb7.size; clear hown2 hgrow2)
                    | (refine step_src rfl (.tmp 54) (.tmp 57) 55 rfl w5.heap.size 9 j0 _ 1 16 Tryz.underlying55 JI.out J0.out J1.out J2.out rfl (by decide) v1 _ _ (by go_simp) (HO1.out.alloc _) (.slice (some ⟨w6.heap.size, 0, none⟩) 1 1) 1 [.string nm] (by go_simp) (srcN_new w6 nm) rfl O3.out M2.out (by omega) (hb6.alloc HS3.out _).size ?_; intro v2 w7 hown2 hgrow2; have hb7 : Below w5.heap.size w5 w7 := (hb6.alloc HS3.out _).grown hgrow2 (hb6.alloc HS3.out _).size HLT1.out; have HO2 := Lib.hid hown2; have HLT2 := Lib.hid (fun j hj => (hown2.lt j hj).1); have HS4 := Lib.hid hb7.size; clear hown2 hgrow2)
                    | (refine step_src rfl (.tmp 58) (.tmp 61) 55 rfl w5.heap.size 9 j0 _ 1 16 Tryz.underlying55 JI.out J0.out J1.out J2.out rfl (by decide) v2 _ _ (by go_simp) HO2.out (.slice (some A) (zs.length - k) (cap - k)) (zs.length - k) ((zs.drop k).map Value.string) (by go_simp) (HS2.out _ hb7) L2.out O2.out M3.out (by omega) HS4.out ?_; intro v3 w8 hown3 hgrow3; have hb8 : Below w5.heap.size w5 w8 := hb7.grown hgrow3 HS4.out HLT2.out; have HO3 := Lib.hid hown3; clear hown3 hgrow3))
                  all_goals
                    have hown := HO3.out
                    rw [HJ.out, show 0 + k + 1 + (zs.length - k) = (putS zs nm).length by rw [HLEN.out]; omega] at hown
                    have HV := Lib.hid (StrsB.of_owns HBW.out hown)
                    have HB8 := Lib.hid (HB5.out _ hb8)
                    clear hown HO3
                    obtain ⟨a5, c5, hv5, _⟩ := HV.out.form
                    subst hv5
                    go_wp2_with fail
                    go_roundw
                    case rel => exact ⟨q + 1, _, by omega, by go_num, HV.out, by have := HLN.out; omega, HP.out, HB8.out⟩
                    case measure => simp [intOf]; omega
            · have hke : k = zs.length := by omega
              have hF := HSS.out (fun y hy => by rw [hke] at hy; simp at hy)
              have hkd : decide ((k : Int) < (zs.length : Int)) = false := by simp; omega
              have hkd2 : decide (k < zs.length) = false := by simp; omega
              have hge : zs.length ≤ k := by omega
              have HLEN := Lib.hid hF.1
              have HJ := Lib.hid hF.2
              clear hp HSS FACTS hF hke
              go_wp2_with fail
              go_quiet (fail)
              go_wp2_with fail
              go_quiet (fail)
              go_wp2_with fail
              generalize hw9 : World.drewN (World.drewN wq _) _ = w9
              have h9 : Below w5.heap.size w5 w9 := hw9 ▸ below_drewN (below_drewN hbq _) _
              have hD : Below w5.heap.size w5 w9.drew := h9.drew
              have HDA := Lib.hid (fun (o : Obj) => (hD.alloc hD.size o : Below w5.heap.size w5 (w9.drew.alloc o)))
              have HNL := Lib.hid (rfl : w9.heap.size = w9.drew.heap.size)
              clear hw9
              go_region_held3 (fun w' => Below w5.heap.size w5 w') (first | with_reducible assumption | with_reducible exact hD | exact HDA.out _ | exact hb6.alloc HS3.out _ | fail) (first
                | (refine step_src rfl (.tmp 50) (.tmp 53) 55 rfl w5.heap.size 9 j0 _ 1 16 Tryz.underlying55 JI.out J0.out J1.out J2.out rfl (by decide) (.slice none 0 0) 0 [] (by go_simp) (World.ownsRow_nil _ _ _ _) (.slice (some ⟨b, off, none⟩) k cap) k ((zs.take k).map Value.string) (by go_simp) (HS1.out _ hD) L1.out O1.out M1.out (by omega) hD.size ?_; intro v1 w6 hown1 hgrow1; have hb6 : Below w5.heap.size w5 w6 := hD.grown hgrow1 hD.size (by intro j hj; simp [Value.ownBlock] at hj); have HO1 := Lib.hid hown1; have HLT1 := Lib.hid (fun j hj => (hown1.lt j hj).1); have HS3 := Lib.hid hb6.size; clear hown1 hgrow1)
                | (refine step_src rfl (.tmp 50) (.tmp 53) 55 rfl w5.heap.size 9 j0 _ 1 16 Tryz.underlying55 JI.out J0.out J1.out J2.out rfl (by decide) (.slice none 0 0) 0 [] (by go_simp) (World.ownsRow_nil _ _ _ _) (.slice (some ⟨b, off, none⟩) k cap) k ((zs.take k).map Value.string) (by go_simp) (HS1.out _ (HDA.out _)) L1.out O1.out M1.out (by omega) (HDA.out _).size ?_; intro v1 w6 hown1 hgrow1; have hb6 : Below w5.heap.size w5 w6 := (HDA.out _).grown hgrow1 (HDA.out _).size (by intro j hj; simp [Value.ownBlock] at hj); have HO1 := Lib.hid hown1; have HSK := Lib.hid (srcN_kept (w := w9.drew) hgrow1 w9.heap.size ⟨rfl, rfl⟩); have HLT1 := Lib.hid (fun j hj => (hown1.lt j hj).1); have HS3 := Lib.hid hb6.size; clear hown1 hgrow1)
                | (refine step_src rfl (.tmp 54) (.tmp 57) 55 rfl w5.heap.size 9 j0 _ 1 16 Tryz.underlying55 JI.out J0.out J1.out J2.out rfl (by decide) v1 _ _ (by go_simp) HO1.out (.slice (some ⟨w9.heap.size, 0, none⟩) 1 1) 1 [.string nm] (by go_simp) HSK.out rfl O3.out M2.out (by omega) HS3.out ?_; intro v2 w7 hown2 hgrow2; have hb7 : Below w5.heap.size w5 w7 := hb6.grown hgrow2 HS3.out HLT1.out; have HO2 := Lib.hid hown2; have HLT2 := Lib.hid (fun j hj => (hown2.lt j hj).1); have HS4 := Lib.hid hb7.size; clear hown2 hgrow2)
                | (refine step_src rfl (.tmp 54) (.tmp 57) 55 rfl w5.heap.size 9 j0 _ 1 16 Tryz.underlying55 JI.out J0.out J1.out J2.out rfl (by decide) v1 _ _ (by go_simp) (HO1.out.alloc _) (.slice (some ⟨w6.heap.size, 0, none⟩) 1 1) 1 [.string nm] (by go_simp) (srcN_new w6 nm) rfl O3.out M2.out (by omega) (hb6.alloc HS3.out _).size ?_; intro v2 w7 hown2 hgrow2; have hb7 : Below w5.heap.size w5 w7 := (hb6.alloc HS3.out _).grown hgrow2 (hb6.alloc HS3.out _).size HLT1.out; have HO2 := Lib.hid hown2; have HLT2 := Lib.hid (fun j hj => (hown2.lt j hj).1); have HS4 := Lib.hid hb7.size; clear hown2 hgrow2)
                | (refine step_src rfl (.tmp 58) (.tmp 61) 55 rfl w5.heap.size 9 j0 _ 1 16 Tryz.underlying55 JI.out J0.out J1.out J2.out rfl (by decide) v2 _ _ (by go_simp) HO2.out (.slice (some A) (zs.length - k) (cap - k)) (zs.length - k) ((zs.drop k).map Value.string) (by go_simp) (HS2.out _ hb7) L2.out O2.out M3.out (by omega) HS4.out ?_; intro v3 w8 hown3 hgrow3; have hb8 : Below w5.heap.size w5 w8 := hb7.grown hgrow3 HS4.out HLT2.out; have HO3 := Lib.hid hown3; clear hown3 hgrow3))
              all_goals
                have hown := HO3.out
                rw [HJ.out, show 0 + k + 1 + (zs.length - k) = (putS zs nm).length by rw [HLEN.out]; omega] at hown
                have HV := Lib.hid (StrsB.of_owns HBW.out hown)
                have HB8 := Lib.hid (HB5.out _ hb8)
                clear hown HO3
                obtain ⟨a5, c5, hv5, _⟩ := HV.out.form
                subst hv5
                go_wp2_with fail
                go_roundw
                case rel => exact ⟨q + 1, _, by omega, by go_num, HV.out, by have := HLN.out; omega, HP.out, HB8.out⟩
                case measure => simp [intOf]; omega
      · obtain rfl : q = RS.length := by omega
        rw [List.drop_length, insNames] at hp
        subst hp
        have HFIN := Lib.hid (HQ.out _ _ hI (HB.out _ (HT0.out _ _ HB4.out hb)))
        obtain ⟨a5, c5, hv5, _⟩ := hI.form
        subst hv5
        clear hI
        go_wp2_with fail
        exact HFIN.out
end Go.Proofs.YtnlnmbcaongehaaGreatDoor
namespace Go.Proofs.YtnlnmbcaongehaaGreatDoor
open Go.RowKit
def findVal47 : Option (Reg × Nat) → Value
  | some (x, _) => .tuple #[.agg x.enc.toArray, .bool true]
  | none => .tuple #[.agg zeroReg.enc.toArray, .bool false]
def FindPost47 (r : Option (Reg × Nat)) (w : World) (e : Ending) (w' : World) : Prop := e = .returned (findVal47 r) ∧ Below w.heap.size w w'
set_option maxRecDepth 100000 in
set_option maxHeartbeats 3200000 in
theorem region47_calls {Ok : World → Reg → Prop} (hK : Keeps Ok) (a : Option Addr) (cap : Nat) (xs : List Reg) (nk : ByteArray) (w : World) (h : SliceOf 7 Reg.enc Ok w a xs) (hl : xs.length ≤ 8000000) :
    Calls Tryz.prog 47 #[.slice a xs.length cap, .string nk] w (FindPost47 (first (fun x : Reg => x.name.toList == nk.toList) xs) w) := by
  generalize hG : first (fun x : Reg => x.name.toList == nk.toList) xs = G
  have H0 := Lib.hid (show firstFrom (fun x : Reg => x.name.toList == nk.toList) (xs.drop 0) 0 = G from hG)
  have HSL := Lib.hid (fun (w' : World) (hb : Below w.heap.size w w') => SliceOf.keeps hK _ _ _ _ hb h)
  have HQ := Lib.hid (fun (w' : World) (v : Value) (h : findVal47 G = v) (hb : Below w.heap.size w w') => (show FindPost47 G w (.returned v) w' from ⟨by rw [h], hb⟩))
  have HFR := Lib.hid (fun (p : Reg → Bool) (k : Nat) (x : Reg) (hx : xs[k]? = some x) => firstFrom_at p xs k x hx)
  generalize FindPost47 G w = Q at *
  obtain ⟨zc, hzc⟩ : ∃ zc : Array Value, zc = #[.string ⟨#[]⟩, .int .i64 0, .int .i64 0, .int .i64 0, .int .i64 0, .int .u8 0, .bool false] := ⟨_, rfl⟩
  have HB0 := Lib.hid (fun (w1 : World) (hb : Below (w.heap.size + 1) (w.alloc (.cells zc 44)) w1) => (show Below w.heap.size w w1 from box_below hb))
  have HZ := Lib.hid (fun (w1 : World) (hb : Below (w.heap.size + 1) (w.alloc (.cells zc 44)) w1) => (show w1.heap[w.heap.size]? = some (.cells zc 44 (0, 0)) by
    rw [hb.block _ (by omega)]
    exact heap_alloc_last w _))
  have hb00 : Below (w.heap.size + 1) (w.alloc (.cells zc 44)) (w.alloc (.cells zc 44)) := Below.refl _ _
  have hsz : (w.alloc (.cells zc 44)).heap.size = w.heap.size + 1 := World.size_alloc _ _
  rw [hzc] at HB0 hb00 hsz HZ
  generalize hW0 : w.alloc (.cells #[.string ⟨#[]⟩, .int .i64 0, .int .i64 0, .int .i64 0, .int .i64 0, .int .u8 0, .bool false] 44) = W0 at *
  have HW0 := Lib.hid hW0
  have HSZ := Lib.hid hsz
  clear hW0 hsz hG h hzc zc
  go_enter Tryz.func47, Tryz.ntmps47
  go_wp2_with fail
  rw [HW0.out]
  go_loopw [10] (fun i wr => ∃ k : Nat, k ≤ xs.length ∧ i = .int .i64 k ∧ firstFrom (fun x : Reg => x.name.toList == nk.toList) (xs.drop k) k = G ∧ Below (w.heap.size + 1) W0 wr) (fun i _ => xs.length - (intOf i).toNat)
  case atStart => exact ⟨0, by omega, rfl, H0.out, hb00⟩
  case round =>
    obtain ⟨k, hk, rfl, hp, hb⟩ := hrel
    have hbs : w.heap.size + 1 ≤ wr.heap.size := by have := hb.size; rw [HSZ.out] at this; exact this
    have hz2 := HZ.out _ hb
    have HB1 := Lib.hid hb
    have hz3 : ∀ o : Obj, (wr.alloc o).heap[w.heap.size]? = some (.cells #[.string ⟨#[]⟩, .int .i64 0, .int .i64 0, .int .i64 0, .int .i64 0, .int .u8 0, .bool false] 44 (0, 0)) := fun o => (Below.heap_alloc wr o _ (by omega)).trans hz2
    have c2 : ∀ (o : Obj) (j : Nat), (wr.alloc o).cell? ⟨w.heap.size, j, none⟩ = _ := fun o j => cell_of_row _ _ j _ 44 (0, 0) (hz3 o)
    have z2 : ∀ (o : Obj) (j : Nat), (wr.alloc o).frozen? ⟨w.heap.size, j, none⟩ = false := fun o j => by simp [World.frozen?, hz3 o]
    have c3 : ∀ j, wr.cell? ⟨w.heap.size, j, none⟩ = _ := fun j => cell_of_row _ _ j _ 44 (0, 0) hz2
    have z3 : ∀ j, wr.frozen? ⟨w.heap.size, j, none⟩ = false := fun j => by simp [World.frozen?, hz2]
    clear hz2 hz3
    by_cases hlt : k < xs.length
    · obtain ⟨b, off, x, rfl, hbl, hxk, hc, _⟩ := (HSL.out _ (HB0.out _ hb)).at_ hlt
      rw [HFR.out (fun x : Reg => x.name.toList == nk.toList) k x hxk] at hp
      have d0 := hc 0 _ rfl; have d1 := hc 1 _ rfl; have d2 := hc 2 _ rfl; have d3 := hc 3 _ rfl; have d4 := hc 4 _ rfl; have d5 := hc 5 _ rfl; have d6 := hc 6 _ rfl
      obtain ⟨nm, top, height, left, width, align, bottom⟩ := x
      simp only [Nat.add_zero] at d0 d1 d2 d3 d4 d5 d6 hp
      clear hc hxk
      cases hkq : (nm.toList == nk.toList)
      · rw [if_neg (by rw [hkq]; decide)] at hp
        have HP := Lib.hid hp
        clear hp H0 c2 z2 c3 z3 hb
        go_wp2_with fail
        go_roundw
        case rel => exact ⟨k + 1, by omega, by go_num, HP.out, HB1.out.alloc hbs _⟩
        case measure => simp [intOf]; omega
      · rw [if_pos hkq] at hp
        have HP := Lib.hid hp
        clear hp H0 hb c3 z3
        go_wp2_with fail
        refine bodyPost_ret (v := .tuple #[.agg #[.string nm, .int .i64 top, .int .i64 height, .int .i64 left, .int .i64 width, .int .u8 align, .bool bottom], .bool true]) (by simp [results, Tryz.results47, go_sem, c2]) rfl ?_
        refine HQ.out _ _ (by rw [← HP.out]; rfl) ?_
        repeat refine Below.setCell ?_ (by simp only; omega) _
        exact HB0.out _ (HB1.out.alloc hbs _)
    · obtain rfl : k = xs.length := by omega
      rw [List.drop_length, firstFrom] at hp
      have HP := Lib.hid hp
      clear hp H0 hb c2 z2
      go_wp2_with fail
      refine bodyPost_ret (v := .tuple #[.agg #[.string ⟨#[]⟩, .int .i64 0, .int .i64 0, .int .i64 0, .int .i64 0, .int .u8 0, .bool false], .bool false]) (by simp [results, Tryz.results47, go_sem, c3]) rfl ?_
      refine HQ.out _ _ (by rw [← HP.out]; rfl) ?_
      repeat refine Below.setCell ?_ (by simp only; omega) _
      exact HB0.out _ HB1.out
/-- Where the first element with a property lies. -/
theorem posFrom_find {α : Type} (p : α → Bool) : ∀ (xs : List α) (i : Nat), (posFrom p xs i = -1 ∧ xs.find? p = none) ∨ ∃ k x, posFrom p xs i = ((i + k : Nat) : Int) ∧ xs[k]? = some x ∧ xs.find? p = some x
  | [], i => .inl ⟨rfl, rfl⟩
  | y :: l, i => by
    unfold posFrom
    rw [List.find?_cons]
    cases hp : p y
    · simp only [Bool.false_eq_true, if_false]
      rcases posFrom_find p l (i + 1) with ⟨h1, h2⟩ | ⟨k, x, h1, h2, h3⟩
      · exact .inl ⟨h1, h2⟩
      · exact .inr ⟨k + 1, x, by rw [h1]; congr 1; omega, by simpa using h2, h3⟩
    · exact .inr ⟨0, y, by simp, rfl, rfl⟩
theorem posOf_find {α : Type} (p : α → Bool) (xs : List α) : (posOf p xs = -1 ∧ xs.find? p = none) ∨ ∃ (k : Nat) (x : α), posOf p xs = (k : Int) ∧ xs[k]? = some x ∧ xs.find? p = some x := by
  rcases posFrom_find p xs 0 with h | ⟨k, x, h1, h2⟩
  · exact .inl h
  · exact .inr ⟨k, x, by rw [posOf, h1]; simp, h2⟩
def hasCm (id : Int) (x : Cm) : Bool := x.id == id
set_option maxHeartbeats 800000 in
theorem refFindCm_calls (d : Doc) (id : Int) (w : World) (hr : CmsAt w d.ca d.cms) (hl : d.cms.length ≤ 4000000) :
    Calls Tryz.prog 105 #[.agg d.enc.toArray, .int .i64 id] w fun e w' => e = .returned (.int .i64 (posOf (hasCm id) d.cms)) ∧ Below w.heap.size w w' := by
  obtain ⟨title, lang, rate, drop, last, ra, rc, regs, ea, ec, evs, a, cc, xs⟩ := d
  simp only at hr hl
  simp only [Doc.enc]
  generalize hG : posOf (hasCm id) xs = G
  have H0 := Lib.hid (show posFrom (hasCm id) (xs.drop 0) 0 = G from hG)
  clear hG
  go_enter Tryz.func105, Tryz.ntmps105
  go_wp2_with fail
  go_loopw [10] (fun i wr => ∃ k : Nat, k ≤ xs.length ∧ i = .int .i64 k ∧ posFrom (hasCm id) (xs.drop k) k = G ∧ Below w.heap.size w wr) (fun i _ => xs.length - (intOf i).toNat)
  case atStart => exact ⟨0, by omega, rfl, H0.out, (Below.refl _ _).alloc (Nat.le_refl _) _⟩
  case round =>
    obtain ⟨k, hk, rfl, hp, hb⟩ := hrel
    by_cases hlt : k < xs.length
    · obtain ⟨b, off, x, rfl, hbl, hx, hc, _⟩ := (hr.later hb).at_ hlt
      rw [posFrom_at' _ xs k x hx] at hp
      obtain ⟨xid, ev, frm, til, au, tx, dn, lo⟩ := x
      have d0 := hc 0 _ rfl; have d1 := hc 1 _ rfl; have d2 := hc 2 _ rfl; have d3 := hc 3 _ rfl; have d4 := hc 4 _ rfl; have d5 := hc 5 _ rfl; have d6 := hc 6 _ rfl; have d7 := hc 7 _ rfl
      simp only [Nat.add_zero] at d0 d1 d2 d3 d4 d5 d6 d7
      have HB := Lib.hid (fun o => hb.alloc hb.size o)
      by_cases ht : xid = id
      · subst ht
        rw [if_pos (by simp [hasCm])] at hp
        have HP := Lib.hid hp
        clear hc hx hp H0
        go_wp2_with fail
        go_ret
        exact ⟨ret_int HP.out, HB.out _⟩
      · have ht' : (xid == id) = false := by simpa using ht
        rw [if_neg (by simp [hasCm, ht])] at hp
        have HP := Lib.hid hp
        clear hc hx hp H0 ht
        go_wp2_with fail
        go_roundw
        case rel => exact ⟨k + 1, by omega, by go_num, HP.out, HB.out _⟩
        case measure => simp [intOf]; omega
    · obtain rfl : k = xs.length := by omega
      rw [List.drop_length] at hp
      have HP := Lib.hid hp
      clear hp H0
      go_wp2_with fail
      go_ret
      exact ⟨ret_int (by rw [← HP.out]; rfl), hb⟩
/-- A comment with an ID, or none. -/
def cmVal : Option Cm → Value
  | some x => .tuple #[.agg x.enc.toArray, .bool true]
  | none => .tuple #[.agg zeroCm.enc.toArray, .bool false]
set_option maxRecDepth 100000 in
set_option maxHeartbeats 3200000 in
theorem comment52_calls (d : Doc) (id : Int) (w : World) (hr : CmsAt w d.ca d.cms) (hl : d.cms.length ≤ 4000000) :
    Calls Tryz.prog 52 #[.agg d.enc.toArray, .int .i64 id] w fun e w' => e = .returned (cmVal (d.cms.find? (cmIs id))) ∧ Below w.heap.size w w' := by
  generalize hQ : (fun (e : Ending) (w' : World) => e = .returned (cmVal (d.cms.find? (cmIs id))) ∧ Below w.heap.size w w') = Q
  generalize hcs : d.enc.toArray = cs
  have HB2 := Lib.hid (fun (o o' : Obj) => (show Below w.heap.size w ((w.alloc o).alloc o') from ((Below.refl _ _).alloc (Nat.le_refl _) _).alloc (by simp) _))
  have HB := Lib.hid (fun (o o' : Obj) (w1 : World) (hb : Below ((w.alloc o).alloc o').heap.size ((w.alloc o).alloc o') w1) => (show Below w.heap.size w w1 from (HB2.out o o').trans (hb.mono (by simp; omega))))
  have HK := Lib.hid (fun (o : Array Value) (w1 : World) (hb : Below ((w.alloc (.cells cs 27)).alloc (.cells o 52)).heap.size ((w.alloc (.cells cs 27)).alloc (.cells o 52)) w1) => (show (w1.heap[w.heap.size]? = some (.cells cs 27 (0, 0)) ∧ w1.heap[w.heap.size + 1]? = some (.cells o 52 (0, 0))) by
    refine ⟨?_, ?_⟩
    · rw [hb.block _ (by simp; omega), Below.heap_alloc _ _ _ (by simp)]
      exact heap_alloc_last w _
    · rw [hb.block _ (by simp)]
      have := heap_alloc_last (w.alloc (.cells cs 27)) (.cells o 52)
      rwa [World.size_alloc] at this))
  have HC := Lib.hid (fun (w1 : World) (h : Below w.heap.size w w1) => refFindCm_calls d id w1 (hr.later h) hl)
  have hfd := posOf_find (hasCm id) d.cms
  rw [show hasCm id = cmIs id from rfl] at hfd HC
  rcases hfd with ⟨hp, hf⟩ | ⟨k, x, hp, hxk, hf⟩
  · rw [hp] at HC
    rw [hf] at hQ
    have HQ := Lib.hid (fun w' (hb : Below w.heap.size w w') => show Q (.returned (.tuple #[.agg zeroCm.enc.toArray, .bool false])) w' from hQ ▸ ⟨rfl, hb⟩)
    clear hQ hp hf
    obtain ⟨title, lang, rate, drop, last, ra, rc, regs, ea, ec, evs, a, cc, xs⟩ := d
    simp only [Doc.enc] at hcs HC
    simp only at hl
    clear hr
    go_enter Tryz.func52, Tryz.ntmps52
    subst hcs
    go_wp2_with fail
    refine (HC.out _ (HB2.out _ _)).mono ?_
    rintro e w1 ⟨rfl, hb⟩
    obtain ⟨hk1, hk2⟩ := HK.out _ _ hb
    have HBW := Lib.hid (HB.out _ _ _ hb)
    clear hb HC HB HK HB2
    have c2 : ∀ j, w1.cell? ⟨w.heap.size + 1, j, none⟩ = _ := fun j => cell_of_row _ _ j _ 52 (0, 0) hk2
    have z2 : ∀ j, w1.frozen? ⟨w.heap.size + 1, j, none⟩ = false := fun j => by simp [World.frozen?, hk2]
    clear hk1 hk2
    go_wp2_with fail
    refine bodyPost_ret (v := .tuple #[.agg #[.int .i64 0, .int .i64 0, .int .i64 0, .int .i64 0, .string ⟨#[]⟩, .string ⟨#[]⟩, .bool false, .bool false], .bool false]) (by simp [results, Tryz.results52, go_sem, c2]) rfl ?_
    refine HQ.out _ ?_
    repeat refine Below.setCell ?_ (by simp only; omega) _
    exact HBW.out
  · have hlt : k < d.cms.length := (List.getElem?_eq_some_iff.1 hxk).1
    obtain ⟨b, off, x', hea, hbl, hxk', hc, _⟩ := hr.at_ hlt
    obtain rfl : x = x' := by rw [hxk] at hxk'; exact Option.some.inj hxk'
    have HD := Lib.hid (fun (w1 : World) (h : Below w.heap.size w w1) (j : Nat) (v : Value) (hv : x.enc[j]? = some v) => (h.cell (p := ⟨b, off + k * 8 + j, none⟩) hbl).trans (hc j v hv))
    rw [hp] at HC
    rw [hf] at hQ
    have HQ := Lib.hid (fun w' (hb : Below w.heap.size w w') => show Q (.returned (.tuple #[.agg x.enc.toArray, .bool true])) w' from hQ ▸ ⟨rfl, hb⟩)
    clear hQ hp hf hxk hxk' hc
    obtain ⟨title, lang, rate, drop, last, ra, rc, regs, ea, ec, evs, a, cc, xs⟩ := d
    simp only at hea hl hlt
    subst hea
    simp only [Doc.enc] at hcs HC
    clear hr
    obtain ⟨xid, ev, frm, til, au, tx, dn, lo⟩ := x
    simp only [Cm.enc] at HD HQ
    go_enter Tryz.func52, Tryz.ntmps52
    subst hcs
    go_wp2_with fail
    refine (HC.out _ (HB2.out _ _)).mono ?_
    rintro e w1 ⟨rfl, hb⟩
    obtain ⟨hk1, hk2⟩ := HK.out _ _ hb
    have hbw := HB.out _ _ _ hb
    have HBW := Lib.hid hbw
    have d0 := HD.out _ hbw 0 _ rfl; have d1 := HD.out _ hbw 1 _ rfl; have d2 := HD.out _ hbw 2 _ rfl; have d3 := HD.out _ hbw 3 _ rfl; have d4 := HD.out _ hbw 4 _ rfl; have d5 := HD.out _ hbw 5 _ rfl; have d6 := HD.out _ hbw 6 _ rfl; have d7 := HD.out _ hbw 7 _ rfl
    simp only [Nat.add_zero] at d0 d1 d2 d3 d4 d5 d6 d7
    clear hb hbw HC HB HK HB2 HD
    have c1 : ∀ j, w1.cell? ⟨w.heap.size, j, none⟩ = _ := fun j => cell_of_row _ _ j _ 27 (0, 0) hk1
    have c2 : ∀ j, w1.cell? ⟨w.heap.size + 1, j, none⟩ = _ := fun j => cell_of_row _ _ j _ 52 (0, 0) hk2
    have z2 : ∀ j, w1.frozen? ⟨w.heap.size + 1, j, none⟩ = false := fun j => by simp [World.frozen?, hk2]
    clear hk1 hk2
    go_wp2_with fail
    refine bodyPost_ret (v := .tuple #[.agg #[.int .i64 xid, .int .i64 ev, .int .i64 frm, .int .i64 til, .string au, .string tx, .bool dn, .bool lo], .bool true]) (by simp [results, Tryz.results52, go_sem, c2]) rfl ?_
    refine HQ.out _ ?_
    repeat refine Below.setCell ?_ (by simp only; omega) _
    exact HBW.out
end Go.Proofs.YtnlnmbcaongehaaGreatDoor
namespace Go.Proofs.YtnlnmbcaongehaaGreatDoor
open Go.RowKit
theorem refSame_len (a a' : Option Addr) (n m c c' : Nat) (w : World) (h : ¬ n = m) : Calls Tryz.prog 119 #[.agg #[.slice a n c], .agg #[.slice a' m c']] w fun e w' => e = .returned (.bool false) ∧ Below w.heap.size w w' := by
  have h1 : (n != m) = true := by simpa using h
  have h2 : ((n : Int) != (m : Int)) = true := by simp; omega
  have HB := Lib.hid (fun o o' => (((Below.refl _ _).alloc (Nat.le_refl _) _).alloc (by simp) _ : Below w.heap.size w ((w.alloc o).alloc o')))
  go_enter Tryz.func119, Tryz.ntmps119
  go_wp2_with fail
  go_ret
  exact ⟨rfl, HB.out _ _⟩
set_option maxHeartbeats 1600000 in
theorem refSame_eq (a a' : Option Addr) (c c' : Nat) (xs ys : List Run) (w : World) (h : Runs w a xs) (h' : Runs w a' ys) (hl : xs.length ≤ 4000000) (hn : xs.length = ys.length) :
    Calls Tryz.prog 119 #[.agg #[.slice a xs.length c], .agg #[.slice a' ys.length c']] w fun e w' => e = .returned (.bool (Lib.allEq runEq xs ys)) ∧ Below w.heap.size w w' := by
  generalize hG : Lib.allEq runEq xs ys = G
  have H0 := Lib.hid (show Lib.allEq runEq (xs.drop 0) (ys.drop 0) = G from hG)
  have HNN := Lib.hid hn
  rw [← hn]
  clear hG hn
  have h1 : ((xs.length : Int) != (xs.length : Int)) = false := by simp
  generalize hds : #[Value.slice a xs.length c] = ds
  generalize hes : #[Value.slice a' xs.length c'] = es
  have f0 := box2_fst w ds es 78 78 0 (.slice a xs.length c) (by rw [← hds]; rfl)
  have g0 := box2_snd w ds es 78 78 0 (.slice a' xs.length c') (by rw [← hes]; rfl)
  have HB := Lib.hid (fun (w1 : World) (h : Below (w.heap.size + 2) ((w.alloc (.cells ds 78)).alloc (.cells es 78)) w1) => box2_below h)
  have hb0 : Below (w.heap.size + 2) ((w.alloc (.cells ds 78)).alloc (.cells es 78)) ((w.alloc (.cells ds 78)).alloc (.cells es 78)) := Below.refl _ _
  generalize hW0 : (w.alloc (.cells ds 78)).alloc (.cells es 78) = W0 at *
  have HW0 := Lib.hid hW0
  clear hW0
  go_enter Tryz.func119, Tryz.ntmps119
  subst hds
  subst hes
  go_wp2_with fail
  rw [HW0.out]
  go_loopw [16] (fun i wr => ∃ k : Nat, k ≤ xs.length ∧ i = .int .i64 k ∧ Lib.allEq runEq (xs.drop k) (ys.drop k) = G ∧ Below (w.heap.size + 2) W0 wr) (fun i _ => xs.length - (intOf i).toNat)
  case atStart => exact ⟨0, by omega, rfl, H0.out, hb0⟩
  case round =>
    obtain ⟨k, hk, rfl, hp, hb⟩ := hrel
    by_cases hlt : k < xs.length
    · obtain ⟨b, off, r, rfl, hbl, hx, hc, hok⟩ := (h.later (HB.out _ hb)).at_ hlt
      obtain ⟨b', off', s, rfl, hbl', hy, hc', hok'⟩ := (h'.later (HB.out _ hb)).at_ (show k < ys.length by rw [← HNN.out]; exact hlt)
      rw [allEq_at runEq xs ys k r s hx hy] at hp
      have hne := run_runNe r s
      have HP := Lib.hid hp
      have hltd : decide (k < xs.length) = true := by simpa using hlt
      generalize runEq r s = E at *
      obtain ⟨t, cc, i, u, ru⟩ := r
      obtain ⟨t2, cc2, i2, u2, ru2⟩ := s
      simp only [Run.enc] at hne
      have d0 := hc 0 _ rfl; have d1 := hc 1 _ rfl; have d2 := hc 2 _ rfl; have d3 := hc 3 _ rfl; have d4 := hc 4 _ rfl
      have e0 := hc' 0 _ rfl; have e1 := hc' 1 _ rfl; have e2 := hc' 2 _ rfl; have e3 := hc' 3 _ rfl; have e4 := hc' 4 _ rfl
      simp only [Nat.add_zero] at d0 d1 d2 d3 d4 e0 e1 e2 e3 e4
      clear hc hc' hp hx hy hok hok' H0
      have hlt2 : (k : Int) < (xs.length : Int) := by omega
      cases E
      · go_wp2_with fail
        go_quiet (fail)
        go_wp2_with fail
        go_ret
        exact ⟨by rw [← HP.out]; rfl, HB.out _ (below_drewN hb _)⟩
      · go_wp2_with fail
        go_quiet (fail)
        go_wp2_with fail
        go_roundw
        case rel => exact ⟨k + 1, by omega, by go_num, by rw [← HP.out]; simp, below_drewN hb _⟩
        case measure => simp [intOf]; omega
    · obtain rfl : k = xs.length := by omega
      have hp2 : true = G := by
        rw [← hp, List.drop_length, HNN.out, List.drop_length, allEq_nil]
      have HP := Lib.hid hp2
      clear hp hp2 H0
      go_wp2_with fail
      go_ret
      exact ⟨by rw [← HP.out]; rfl, HB.out _ hb⟩
theorem refSame_calls (r s : Row) (w : World) (h : r.lies w) (h' : s.lies w) (hl : r.runs.length ≤ 4000000) :
    Calls Tryz.prog 119 #[.agg r.enc.toArray, .agg s.enc.toArray] w fun e w' => e = .returned (.bool (rowEq r s)) ∧ Below w.heap.size w w' := by
  obtain ⟨a, c, xs⟩ := r
  obtain ⟨a', c', ys⟩ := s
  unfold rowEq
  simp only [Row.enc, Row.lies] at *
  by_cases hn : xs.length = ys.length
  · exact refSame_eq a a' c c' xs ys w h h' hl hn
  · rw [Lib.allEq_len runEq xs ys hn]
    exact refSame_len a a' _ _ c c' w hn
theorem refRows_len (a a' : Option Addr) (n m c c' : Nat) (w : World) (h : ¬ n = m) : Calls Tryz.prog 64 #[.slice a n c, .slice a' m c'] w fun e w' => e = .returned (.bool false) ∧ Below w.heap.size w w' := by
  have h1 : (n != m) = true := by simpa using h
  have h2 : ((n : Int) != (m : Int)) = true := by simp; omega
  go_enter Tryz.func64, Tryz.ntmps64
  go_wp2_with fail
  go_ret
  exact ⟨rfl, Below.refl _ _⟩
set_option maxHeartbeats 1600000 in
theorem refRows_eq (a a' : Option Addr) (c c' : Nat) (xs ys : List Row) (w : World) (h : RowsAt' w a xs) (h' : RowsAt' w a' ys) (hf : ∀ r ∈ xs, r.runs.length ≤ 4000000) (hl : xs.length ≤ 4000000) (hn : xs.length = ys.length) :
    Calls Tryz.prog 64 #[.slice a xs.length c, .slice a' ys.length c'] w fun e w' => e = .returned (.bool (Lib.allEq rowEq xs ys)) ∧ Below w.heap.size w w' := by
  have HT := Lib.hid (fun (w2 w3 : World) (h : Below w.heap.size w w2) (h3 : Below w2.heap.size w2 w3) => (h.trans (h3.mono h.size) : Below w.heap.size w w3))
  generalize hG : Lib.allEq rowEq xs ys = G
  have H0 := Lib.hid (show Lib.allEq rowEq (xs.drop 0) (ys.drop 0) = G from hG)
  have HNN := Lib.hid hn
  rw [← hn]
  clear hG hn
  have h1 : ((xs.length : Int) != (xs.length : Int)) = false := by simp
  go_enter Tryz.func64, Tryz.ntmps64
  go_wp2_with fail
  go_loopw [13] (fun i wr => ∃ k : Nat, k ≤ xs.length ∧ i = .int .i64 k ∧ Lib.allEq rowEq (xs.drop k) (ys.drop k) = G ∧ Below w.heap.size w wr) (fun i _ => xs.length - (intOf i).toNat)
  case atStart => exact ⟨0, by omega, rfl, H0.out, Below.refl _ _⟩
  case round =>
    obtain ⟨k, hk, rfl, hp, hb⟩ := hrel
    by_cases hlt : k < xs.length
    · obtain ⟨b, off, r, rfl, hbl, hx, hc, hok⟩ := SliceOf.at_ h hlt
      obtain ⟨b', off', s, rfl, hbl', hy, hc', hok'⟩ := SliceOf.at_ h' (show k < ys.length by rw [← HNN.out]; exact hlt)
      have HC := Lib.hid (fun (w1 : World) (q : Below w.heap.size w w1) => (refSame_calls r s w1 (Row.keeps _ _ _ q hok) (Row.keeps _ _ _ q hok') (hf r (List.mem_of_getElem? hx))).mono (fun e w' (p : e = .returned (.bool (rowEq r s)) ∧ Below w1.heap.size w1 w') => (show e = .returned (.bool (rowEq r s)) ∧ Below w.heap.size w w' from ⟨p.1, HT.out _ _ q p.2⟩)))
      rw [allEq_at rowEq xs ys k r s hx hy] at hp
      have HP := Lib.hid hp
      have hltd : decide (k < xs.length) = true := by simpa using hlt
      have q0 := fun (w1 : World) (q : Below w.heap.size w w1) => (q.cell (p := ⟨b, off + k * 1 + 0, none⟩) hbl).trans (hc 0 _ rfl)
      have q1 := fun (w1 : World) (q : Below w.heap.size w w1) => (q.cell (p := ⟨b', off' + k * 1 + 0, none⟩) hbl').trans (hc' 0 _ rfl)
      simp only [Nat.add_zero, Nat.mul_one] at q0 q1
      obtain ⟨ra, rc, rr⟩ := r
      obtain ⟨sa, sc, ss⟩ := s
      generalize rowEq ⟨ra, rc, rr⟩ ⟨sa, sc, ss⟩ = E at *
      simp only [Row.enc] at HC q0 q1
      clear hc hc' hp hx hy hok hok' H0
      have hlt2 : (k : Int) < (xs.length : Int) := by omega
      have hb0d : Below w.heap.size w wr.drew := hb.drew
      cases E
      · go_wp2_with fail
        go_region_held3 (fun w' => Below w.heap.size w w') (first | assumption | exact hb0d) (first | (go_at_call 119; ((with_reducible refine (HC.out _ ?_).mono ?_); assumption); rintro e w4 ⟨rfl, hc4⟩))
        all_goals
          go_wp2_with fail
          go_ret
          exact ⟨by rw [← HP.out]; rfl, by assumption⟩
      · go_wp2_with fail
        go_region_held3 (fun w' => Below w.heap.size w w') (first | assumption | exact hb0d) (first | (go_at_call 119; ((with_reducible refine (HC.out _ ?_).mono ?_); assumption); rintro e w4 ⟨rfl, hc4⟩))
        all_goals
          go_wp2_with fail
          go_roundw
          case rel => exact ⟨k + 1, by omega, by go_num, by rw [← HP.out]; simp, by assumption⟩
          case measure => simp [intOf]; omega
    · obtain rfl : k = xs.length := by omega
      have hp2 : true = G := by
        rw [← hp, List.drop_length, HNN.out, List.drop_length, allEq_nil]
      have HP := Lib.hid hp2
      clear hp hp2 H0
      go_wp2_with fail
      go_ret
      exact ⟨by rw [← HP.out]; rfl, hb⟩
theorem refRows_calls (a a' : Option Addr) (c c' : Nat) (xs ys : List Row) (w : World) (h : RowsAt' w a xs) (h' : RowsAt' w a' ys) (hf : ∀ r ∈ xs, r.runs.length ≤ 4000000) (hl : xs.length ≤ 4000000) :
    Calls Tryz.prog 64 #[.slice a xs.length c, .slice a' ys.length c'] w fun e w' => e = .returned (.bool (rowsEq xs ys)) ∧ Below w.heap.size w w' := by
  unfold rowsEq
  by_cases hn : xs.length = ys.length
  · exact refRows_eq a a' c c' xs ys w h h' hf hl hn
  · rw [Lib.allEq_len rowEq xs ys hn]
    exact refRows_len a a' _ _ c c' w hn
end Go.Proofs.YtnlnmbcaongehaaGreatDoor
