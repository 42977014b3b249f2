/- The contract of diff.Diff at valid documents. (printed by gen_diff.py, gen_diff2.py) The contract of the reference's Check of documents: the same specification as the program's. The contracts of the reference's put and Events: the IDs of two documents, ascending. The contract of the reference's Events. The contract of the reference's Comments. (printed by gen_refkeys.py) The reference's lists of keys, built by insertion, are the program's ones, sorted and compacted. The contract of the reference's Names: the names of the regions of two documents, ascending. (printed by gen_names.py) The reference's Clone of rows and events, Same of events, and event. (printed by gen_refev.py) The contract of the reference's Diff. (printed by gen_refdiff.py) The reference's SameChange and Same at changes with equal contents. (printed by gen_refchgsame.py) The law DiffLists, where awake is true: the changes of both sides have the same contents. -/
import Derived.Deep.RegionLaw
import Derived.Laws.OwnMore
import Derived.Deep.RegionHeld3
import Derived.Deep.DeepCutAuto
import Derived.Deep.DrawnRows
import Derived.Deep.MidRow
import Derived.Test.YtnlnmbcaongehaaGreatDoorBase08
import Derived.Test.YtnlnmbcaongehaaGreatDoorBase00
import Derived.Test.YtnlnmbcaongehaaGreatDoorBase01
import Derived.Test.YtnlnmbcaongehaaGreatDoorBase02
import Derived.Test.YtnlnmbcaongehaaGreatDoorBase03
import Derived.Test.YtnlnmbcaongehaaGreatDoorBase05
import Derived.Test.YtnlnmbcaongehaaGreatDoorBase07
import Derived.Test.YtnlnmbcaongehaaGreatDoorBase06
set_option linter.unusedVariables false
set_option linter.unusedSimpArgs false
namespace Go.Proofs.YtnlnmbcaongehaaGreatDoor
open Go.RowKit
attribute [local go_sem ↓] Go.wp_at_zero Go.wp_at_succ
set_option maxRecDepth 100000 in
set_option maxHeartbeats 12800000 in
theorem diff_ok (a b : Doc) (w : World) (hE : Env w) (ha : a.lies w) (hb : b.lies w) (hfa : a.fits) (hfb : b.fits) (h0 : docErr a = 0) (h1 : docErr b = 0) :
    Calls Tryz.prog 11 #[.agg a.enc.toArray, .agg b.enc.toArray] w (DiffPost a b w) := by
  have HQ := Lib.hid (fun (v : Value) (W0 w' : World) (hB : w.heap.size + 2 ≤ W0.heap.size) (hW : Below w.heap.size w W0) (h2 : DRel (chgs a b) (w.heap.size + 2) W0 v w') => (show DiffPost a b w (.returned (.tuple #[v, .int .i64 0])) w' from by
    unfold DiffPost
    rw [if_neg (by simpa using h0), if_neg (by simpa using h1)]
    obtain ⟨zs, ⟨h4, h5, h6⟩, h3⟩ := h2
    exact ⟨v, zs, rfl, ⟨⟨h4.1, h4.2.imp id (fun ⟨g, cap, cur, q1, q2, q3⟩ => ⟨g, cap, cur, q1, by omega, q3⟩)⟩, fun z hz => ⟨(h5 z hz).1, fun b hu => ⟨((h5 z hz).2 b hu).1, by have := ((h5 z hz).2 b hu).2; omega⟩⟩, hW.trans (h6.mono (by omega))⟩, h3⟩))
  have HCA := Lib.hid (fun (w1 : World) (h : Below w.heap.size w w1) => docCheck_calls a w1 (hE.below h (Nat.le_refl _)) (Doc.later ha h) hfa)
  have HCB := Lib.hid (fun (w1 : World) (h : Below w.heap.size w w1) => docCheck_calls b w1 (hE.below h (Nat.le_refl _)) (Doc.later hb h) hfb)

  have HREST := Lib.hid (fun (wc : World) (av : Option Addr) (an ac : Nat) hcut s0 s1 s4 s5 s6 s7 s8 s10 s11 s12 s13 s14 s15 s16 s17 s18 s19 s20 s21 s22 s23 s24 s25 s26 s27 s28 s29 s30 s31 s32 s33 s34 s35 s36 s37 s38 s39 s40 s41 s42 s43 s44 s45 s46 s47 s48 s49 s50 s51 s52 s53 s54 s55 s56 s57 s58 s59 s60 s61 s62 s63 s64 s65 s66 s67 s68 s69 s70 s71 s72 s73 s74 s75 s76 s77 s78 s79 s80 s81 s82 s83 s84 s85 s86 s87 s88 s89 s90 s91 s92 s93 s94 s95 s96 s97 s98 s99 s100 s101 s102 s103 s104 s105 s106 s107 s108 s109 s110 s111 s112 s113 s114 s115 s116 s117 s118 s119 s120 s121 s122 s123 s124 s125 s126 s127 s128 s129 s130 s131 s132 s133 s134 s135 s136 s137 s138 s139 s140 s141 s142 s143 s144 s145 s146 s147 s148 s149 s150 s151 s152 s153 s154 s155 s156 s157 s158 s159 s160 s161 s162 s163 s164 s165 s166 s167 s168 s169 s170 s171 s172 s173 s174 s175 s176 s177 s178 s179 s180 s181 s182 s183 s184 s185 s186 s187 s188 s189 s190 s191 s192 s193 s194 s195 s196 s197 s198 s199 s200 s201 s202 s203 s204 => diff_rest a b w wc ha hb hfa hfb h0 h1 av an ac hcut s0 s1 s4 s5 s6 s7 s8 s10 s11 s12 s13 s14 s15 s16 s17 s18 s19 s20 s21 s22 s23 s24 s25 s26 s27 s28 s29 s30 s31 s32 s33 s34 s35 s36 s37 s38 s39 s40 s41 s42 s43 s44 s45 s46 s47 s48 s49 s50 s51 s52 s53 s54 s55 s56 s57 s58 s59 s60 s61 s62 s63 s64 s65 s66 s67 s68 s69 s70 s71 s72 s73 s74 s75 s76 s77 s78 s79 s80 s81 s82 s83 s84 s85 s86 s87 s88 s89 s90 s91 s92 s93 s94 s95 s96 s97 s98 s99 s100 s101 s102 s103 s104 s105 s106 s107 s108 s109 s110 s111 s112 s113 s114 s115 s116 s117 s118 s119 s120 s121 s122 s123 s124 s125 s126 s127 s128 s129 s130 s131 s132 s133 s134 s135 s136 s137 s138 s139 s140 s141 s142 s143 s144 s145 s146 s147 s148 s149 s150 s151 s152 s153 s154 s155 s156 s157 s158 s159 s160 s161 s162 s163 s164 s165 s166 s167 s168 s169 s170 s171 s172 s173 s174 s175 s176 s177 s178 s179 s180 s181 s182 s183 s184 s185 s186 s187 s188 s189 s190 s191 s192 s193 s194 s195 s196 s197 s198 s199 s200 s201 s202 s203 s204)
  rw [h0] at HCA
  rw [h1] at HCB
  have HHA := Lib.hid (fun w1 => head_calls a w1)
  have HHB := Lib.hid (fun w1 => head_calls b w1)
  have HKR := Lib.hid (fun (w1 : World) (h : Below w.heap.size w w1) => keys34_calls Flat.keeps a.ra b.ra a.rc b.rc a.regs b.regs w1 (ha.1.later h) (hb.1.later h) hfa.2.2.2.2.2.2.1 hfb.2.2.2.2.2.2.1)
  have HKE := Lib.hid (fun (w1 : World) (h : Below w.heap.size w w1) => keys37_calls Ev.keeps a.ea b.ea a.ec b.ec a.evs b.evs w1 (ha.2.1.later h) (hb.2.1.later h) hfa.2.2.2.2.2.2.2.2.1 hfb.2.2.2.2.2.2.2.2.1)
  have HKC := Lib.hid (fun (w1 : World) (h : Below w.heap.size w w1) => keys41_calls Flat.keeps a.ca b.ca a.cc b.cc a.cms b.cms w1 (ha.2.2.later h) (hb.2.2.later h) hfa.2.2.2.2.2.2.2.2.2.2 hfb.2.2.2.2.2.2.2.2.2.2)
  have HFA := Lib.hid (fun (k : ByteArray) (w1 : World) (h : Below w.heap.size w w1) => find36_calls Flat.keeps a.ra a.rc a.regs k w1 (ha.1.later h) (by have := hfa.2.2.2.2.2.2.1; omega))
  have HFB := Lib.hid (fun (k : ByteArray) (w1 : World) (h : Below w.heap.size w w1) => find36_calls Flat.keeps b.ra b.rc b.regs k w1 (hb.1.later h) (by have := hfb.2.2.2.2.2.2.1; omega))
  have HGA := Lib.hid (fun (k : Int) (w1 : World) (h : Below w.heap.size w w1) => find39_calls Ev.keeps a.ea a.ec a.evs k w1 (ha.2.1.later h) (by have := hfa.2.2.2.2.2.2.2.2.1; omega))
  have HGB := Lib.hid (fun (k : Int) (w1 : World) (h : Below w.heap.size w w1) => find39_calls Ev.keeps b.ea b.ec b.evs k w1 (hb.2.1.later h) (by have := hfb.2.2.2.2.2.2.2.2.1; omega))
  have HEVA := Lib.hid (fun (p : Ev → Bool) => ev_got ha.2.1 hfa.2.2.2.2.2.2.2.1 p)
  have HEVB := Lib.hid (fun (p : Ev → Bool) => ev_got hb.2.1 hfb.2.2.2.2.2.2.2.1 p)
  have HMA := Lib.hid (fun (k : Int) (w1 : World) (h : Below w.heap.size w w1) => find43_calls Flat.keeps a.ca a.cc a.cms k w1 (ha.2.2.later h) (by have := hfa.2.2.2.2.2.2.2.2.2.2; omega))
  have HMB := Lib.hid (fun (k : Int) (w1 : World) (h : Below w.heap.size w w1) => find43_calls Flat.keeps b.ca b.cc b.cms k w1 (hb.2.2.later h) (by have := hfb.2.2.2.2.2.2.2.2.2.2; omega))
  have HCH := Lib.hid (show ((chgHead a.hd b.hd ++ (Lib.compact (sortS ((a.regs ++ b.regs).map (fun x : Reg => x.name.data.toList)))).flatMap (fun l => chgReg a.regs b.regs ⟨l.toArray⟩)) ++ (Lib.compact (sortI ((a.evs ++ b.evs).map (fun x : Ev => x.id)))).flatMap (chgEv a.evs b.evs)) ++ (Lib.compact (sortI ((a.cms ++ b.cms).map (fun x : Cm => x.id)))).flatMap (chgCm a.cms b.cms) = chgs a b by
    unfold chgs chgsOf regKeys evKeys cmKeys
    rw [List.flatMap_map, List.append_assoc, List.append_assoc])
  have hll : (Lib.compact (sortS ((a.regs ++ b.regs).map (fun x : Reg => x.name.data.toList)))).length ≤ 8000000 := len_compact _ _ (by unfold sortS; rw [List.length_mergeSort, List.length_map, List.length_append]; have := hfa.2.2.2.2.2.2.1; have := hfb.2.2.2.2.2.2.1; omega)
  have hel : (Lib.compact (sortI ((a.evs ++ b.evs).map (fun x : Ev => x.id)))).length ≤ 8000000 := len_compact _ _ (by unfold sortI; rw [List.length_mergeSort, List.length_map, List.length_append]; have := hfa.2.2.2.2.2.2.2.2.1; have := hfb.2.2.2.2.2.2.2.2.1; omega)
  have hcl : (Lib.compact (sortI ((a.cms ++ b.cms).map (fun x : Cm => x.id)))).length ≤ 8000000 := len_compact _ _ (by unfold sortI; rw [List.length_mergeSort, List.length_map, List.length_append]; have := hfa.2.2.2.2.2.2.2.2.2.2; have := hfb.2.2.2.2.2.2.2.2.2.2; omega)
  generalize Lib.compact (sortS ((a.regs ++ b.regs).map (fun x : Reg => x.name.data.toList))) = ls at *
  generalize Lib.compact (sortI ((a.evs ++ b.evs).map (fun x : Ev => x.id))) = es at *
  generalize Lib.compact (sortI ((a.cms ++ b.cms).map (fun x : Cm => x.id))) = cs at *
  generalize chgs a b = CHG at *
  generalize hhd : a.hd = hd1 at *
  generalize hhd' : b.hd = hd2 at *
  generalize DiffPost a b w = Q at *
  obtain ⟨title, lang, rate, drop, last, ra, rc, regs, ea, ec, evs, ca, cc, cms⟩ := a
  obtain ⟨title', lang', rate', drop', last', ra', rc', regs', ea', ec', evs', ca', cc', cms'⟩ := b
  simp only [Doc.enc, Doc.hd] at *
  generalize hds : #[Value.string title, .string lang, .int .u8 rate, .bool drop, .int .i64 last, .slice ra regs.length rc, .slice ea evs.length ec, .slice ca cms.length cc] = ds
  generalize hqs : #[Value.string title', .string lang', .int .u8 rate', .bool drop', .int .i64 last', .slice ra' regs'.length rc', .slice ea' evs'.length ec', .slice ca' cms'.length cc'] = qs
  have f0 := box2_fst w ds qs 27 27 0 (.string title) (by rw [← hds]; rfl)
  have f1 := box2_fst w ds qs 27 27 1 (.string lang) (by rw [← hds]; rfl)
  have f2 := box2_fst w ds qs 27 27 2 (.int .u8 rate) (by rw [← hds]; rfl)
  have f3 := box2_fst w ds qs 27 27 3 (.bool drop) (by rw [← hds]; rfl)
  have f4 := box2_fst w ds qs 27 27 4 (.int .i64 last) (by rw [← hds]; rfl)
  have f5 := box2_fst w ds qs 27 27 5 (.slice ra regs.length rc) (by rw [← hds]; rfl)
  have f6 := box2_fst w ds qs 27 27 6 (.slice ea evs.length ec) (by rw [← hds]; rfl)
  have f7 := box2_fst w ds qs 27 27 7 (.slice ca cms.length cc) (by rw [← hds]; rfl)
  have g0 := box2_snd w ds qs 27 27 0 (.string title') (by rw [← hqs]; rfl)
  have g1 := box2_snd w ds qs 27 27 1 (.string lang') (by rw [← hqs]; rfl)
  have g2 := box2_snd w ds qs 27 27 2 (.int .u8 rate') (by rw [← hqs]; rfl)
  have g3 := box2_snd w ds qs 27 27 3 (.bool drop') (by rw [← hqs]; rfl)
  have g4 := box2_snd w ds qs 27 27 4 (.int .i64 last') (by rw [← hqs]; rfl)
  have g5 := box2_snd w ds qs 27 27 5 (.slice ra' regs'.length rc') (by rw [← hqs]; rfl)
  have g6 := box2_snd w ds qs 27 27 6 (.slice ea' evs'.length ec') (by rw [← hqs]; rfl)
  have g7 := box2_snd w ds qs 27 27 7 (.slice ca' cms'.length cc') (by rw [← hqs]; rfl)
  have HB := Lib.hid (fun (w1 : World) (h : Below (w.heap.size + 2) ((w.alloc (.cells ds 27)).alloc (.cells qs 27)) w1) => box2_below h)
  have hb0 : Below (w.heap.size + 2) ((w.alloc (.cells ds 27)).alloc (.cells qs 27)) ((w.alloc (.cells ds 27)).alloc (.cells qs 27)) := Below.refl _ _
  have hsz : ((w.alloc (.cells ds 27)).alloc (.cells qs 27)).heap.size = w.heap.size + 2 := by simp
  generalize hW0 : (w.alloc (.cells ds 27)).alloc (.cells qs 27) = W0 at *
  have HW0 := Lib.hid hW0
  have HSZ := Lib.hid hsz
  have HT0 := Lib.hid (fun (w2 w3 : World) (h : Below (w.heap.size + 2) W0 w2) (h3 : Below w2.heap.size w2 w3) => (h.trans (h3.mono (by have := h.size; rw [HSZ.out] at this; exact this)) : Below (w.heap.size + 2) W0 w3))
  have HLT := Lib.hid (fun (w2 : World) (h : Below (w.heap.size + 2) W0 w2) => (show w.heap.size + 2 ≤ w2.heap.size by have := h.size; rw [HSZ.out] at this; exact this))
  have HKS := Lib.hid (fun (o o' : Array Value) (w1 : World) (h : Below ((W0.alloc (.cells o 27)).alloc (.cells o' 27)).heap.size ((W0.alloc (.cells o 27)).alloc (.cells o' 27)) w1) (j : Nat) => (show w1.cell? ⟨w.heap.size + 1 + 1, j, none⟩ = o[j]? by
    rw [show w.heap.size + 1 + 1 = W0.heap.size from HSZ.out.symm]
    have hk : w1.heap[W0.heap.size]? = some (.cells o 27 (0, 0)) := by
      rw [h.block _ (by simp; omega), Below.heap_alloc _ _ _ (by simp)]
      exact heap_alloc_last W0 _
    exact cell_of_row _ _ j o 27 (0, 0) hk))
  have ka : ∀ (o : Array Value) (j : Nat), (W0.alloc (.cells o 27)).cell? ⟨w.heap.size + 1 + 1, j, none⟩ = o[j]? := fun o j => by
    rw [show w.heap.size + 1 + 1 = W0.heap.size from HSZ.out.symm]
    exact cell_of_row _ _ j o 27 (0, 0) (heap_alloc_last W0 _)
  have HL2 := Lib.hid (fun o o' => ((hb0.alloc (by rw [HSZ.out]; omega) o).alloc (by rw [World.size_alloc, HSZ.out]; omega) o' : Below (w.heap.size + 2) W0 ((W0.alloc o).alloc o')))
  have HWW := Lib.hid (HB.out _ hb0)
  have hBW : w.heap.size + 2 ≤ W0.heap.size := by rw [HSZ.out]; exact Nat.le_refl _
  obtain ⟨j0, jz, hj, hy0, hy1, hy2, hy3⟩ := chgInfo
  have JI := Lib.hid hj; have J0 := Lib.hid hy0; have J1 := Lib.hid hy1; have J2 := Lib.hid hy2; have J3 := Lib.hid hy3
  clear hW0 hsz ha hb hE hfa hfb h0 h1 hj hy0 hy1 hy2 hy3
  go_enter Tryz.func11, Tryz.ntmps11
  subst hds
  subst hqs
  go_wp2_with fail
  rw [HW0.out]
  refine wp_loop_rounds 3 ?_
  rw [rounds_succ]
  go_wp2_with fail
  refine (HCA.out _ (HB.out _ (HL2.out _ _))).mono ?_
  rintro e w1 ⟨rfl, hb1⟩
  have hc1 := HT0.out _ _ (HL2.out _ _) hb1
  have k0 := HKS.out _ _ _ hb1
  clear hb1 HCA
  go_wp2_with fail
  have HL1 := Lib.hid (fun o => (hc1.alloc (HLT.out _ hc1) o : Below (w.heap.size + 2) W0 (w1.alloc o)))
  rw [rounds_succ]
  go_wp2_with fail
  refine (HCB.out _ (HB.out _ (HL1.out _))).mono ?_
  rintro e w2 ⟨rfl, hb2⟩
  have hc2 := HT0.out _ _ (HL1.out _) hb2
  clear hb2 HCB k0
  clear ka
  go_wp2_with fail
  rw [rounds_succ]
  go_upto_region 9 with fail
  go_cut [10, 11] (fun s10 s11 wx => ∃ g h : Nat, s10 = .pointer (some ⟨g, 0, none⟩) ∧ s11 = .pointer (some ⟨h, 0, none⟩) ∧ HdAt g hd1 wx ∧ HdAt h hd2 wx ∧ Below (w.heap.size + 2) W0 wx)
  case first =>
    have HF1 := Lib.hid (fun (w1 : World) (h : Below (w.heap.size + 2) W0 w1) => (HHA.out w1).mono (fun e w' (p : e = .returned (.agg hd1.enc.toArray) ∧ Below w1.heap.size w1 w') => (show e = .returned (.agg hd1.enc.toArray) ∧ Below (w.heap.size + 2) W0 w' ∧ Below w1.heap.size w1 w' from ⟨p.1, HT0.out _ _ h p.2, p.2⟩)))
    have HF2 := Lib.hid (fun (w1 : World) (h : Below (w.heap.size + 2) W0 w1) => (HHB.out w1).mono (fun e w' (p : e = .returned (.agg hd2.enc.toArray) ∧ Below w1.heap.size w1 w') => (show e = .returned (.agg hd2.enc.toArray) ∧ Below (w.heap.size + 2) W0 w' ∧ Below w1.heap.size w1 w' from ⟨p.1, HT0.out _ _ h p.2, p.2⟩)))
    have hc2d : Below (w.heap.size + 2) W0 w2.drew := hc2.drew
    have hw2 := HLT.out _ hc2
    subst hhd
    subst hhd'
    simp only [Hd.enc] at HF1 HF2
    clear HHA HHB
    go_region_held3 (fun w' => Below (w.heap.size + 2) W0 w') (repeat (first | with_reducible assumption | with_reducible exact hc2d | with_reducible refine Below.setCell ?_ (by dsimp only; first | omega | (simp; omega)) _ | with_reducible refine below_alloc1 ?_ hBW _ | with_reducible refine Below.drew ?_)) (first | (go_at_call 33; (first | ((with_reducible refine (HF1.out _ ?_).mono ?_); assumption) | ((with_reducible refine (HF2.out _ ?_).mono ?_); assumption)); rintro e w3 ⟨rfl, hb1, hr1⟩; have hs1 := HLT.out _ hb1; (first | (have hZ := hbox2 (g := w2.heap.size) (g' := w2.heap.size + 1) (w := w2.drew) hr1 rfl rfl; have HZP := Lib.hid hZ; obtain ⟨⟨l, c0, c1, c2, c3, c4, z0, z1, z2, z3, z4⟩, ⟨l', c0', c1', c2', c3', c4', z0', z1', z2', z3', z4'⟩⟩ := hZ) | (have hZ := hbox (g := w2.heap.size) (w := w2.drew) hr1 rfl; have HZK := Lib.hid hZ; obtain ⟨l, c0, c1, c2, c3, c4, z0, z1, z2, z3, z4⟩ := hZ) | (have hZ := hbox2 hr1 rfl rfl; obtain ⟨⟨l, c0, c1, c2, c3, c4, z0, z1, z2, z3, z4⟩, ⟨l', c0', c1', c2', c3', c4', z0', z1', z2', z3', z4'⟩⟩ := hZ) | (have hY := HZK.out.later ((Below.refl _ _).alloc (Nat.le_refl _) (.cells zhd 41)); have hZ := hY.later hr1; have hZ2 := hbox hr1 rfl; obtain ⟨l, c0, c1, c2, c3, c4, z0, z1, z2, z3, z4⟩ := hZ; obtain ⟨l', c0', c1', c2', c3', c4', z0', z1', z2', z3', z4'⟩ := hZ2) | (have hZ := HZP.out.1.later hr1; have hZ2 := HZP.out.2.later hr1; obtain ⟨l, c0, c1, c2, c3, c4, z0, z1, z2, z3, z4⟩ := hZ; obtain ⟨l', c0', c1', c2', c3', c4', z0', z1', z2', z3', z4'⟩ := hZ2) | (have hZ := HZK.out.later hr1; obtain ⟨l, c0, c1, c2, c3, c4, z0, z1, z2, z3, z4⟩ := hZ) | (have hZ := hbox hr1 rfl; have HZK := Lib.hid hZ; obtain ⟨l, c0, c1, c2, c3, c4, z0, z1, z2, z3, z4⟩ := hZ) | skip); clear hr1))
    all_goals
      go_wp2_with fail
      go_meet
      refine ⟨_, _, rfl, rfl, ?hx, ?hy, by first | assumption | exact below_alloc1 (below_alloc1 (by assumption) hBW _) hBW _⟩
      case hx => (repeat (first | with_reducible exact ⟨l, c0, c1, c2, c3, c4, z0, z1, z2, z3, z4⟩ | with_reducible exact ⟨l', c0', c1', c2', c3', c4', z0', z1', z2', z3', z4'⟩ | with_reducible exact HdAt.new (x := ⟨title, lang, rate, drop, last⟩) (by simp; done) | with_reducible exact HdAt.new (x := zeroHd) (by simp; done) | with_reducible refine HdAt.set (x := ⟨title, lang, rate, drop, last⟩) ?_ | with_reducible refine HdAt.other (y := ⟨title', lang', rate', drop', last'⟩) (by omega) ?_ | with_reducible refine HdAt.alloc ?_ _))
      case hy => (repeat (first | with_reducible exact ⟨l, c0, c1, c2, c3, c4, z0, z1, z2, z3, z4⟩ | with_reducible exact ⟨l', c0', c1', c2', c3', c4', z0', z1', z2', z3', z4'⟩ | with_reducible exact HdAt.new (x := ⟨title', lang', rate', drop', last'⟩) (by simp; done) | with_reducible exact HdAt.new (x := zeroHd) (by simp; done) | with_reducible refine HdAt.set (x := ⟨title', lang', rate', drop', last'⟩) ?_ | with_reducible refine HdAt.other (y := ⟨title, lang, rate, drop, last⟩) (by omega) ?_ | with_reducible refine HdAt.alloc ?_ _))
  case rest =>
    obtain ⟨g, h, rfl, rfl, hbx, hby, hbc⟩ := hcut
    have HX := Lib.hid hbx
    have HY := Lib.hid hby
    obtain ⟨l, c0, c1, c2, c3, c4, z0, z1, z2, z3, z4⟩ := hbx
    obtain ⟨l', c0', c1', c2', c3', c4', z0', z1', z2', z3', z4'⟩ := hby
    clear z0 z1 z2 z3 z4 z0' z1' z2' z3' z4'
    have r1 := fun wx => run_hdNe hd1 hd2 wx
    have HPRE := Lib.hid (show chgHead hd1 hd2 = if hdEq hd1 hd2 = true then [] else [⟨1, 0, ⟨#[]⟩, false, false, hd1, hd2, zeroReg, zeroReg, zeroEvC, zeroEvC, zeroCm, zeroCm⟩] from rfl)
    have hpl := chgHead_le hd1 hd2
    subst hhd
    subst hhd'
    simp only [Hd.enc] at r1 c0 c1 c2 c3 c4 c0' c1' c2' c3' c4'
    generalize hdEq _ _ = HE at *
    generalize chgHead _ _ = P0 at *
    go_upto_if 56 with fail
    go_cut [9] (fun s9 wx => DRel P0 (w.heap.size + 2) W0 s9 wx)
    case first =>
      cases HE with
      | true =>
        go_wp2_with fail
        go_meet
        rw [HPRE.out]
        exact ⟨[], GrowL.start hbc, rfl⟩
      | false =>
        obtain ⟨zs, hzl, hO, hP⟩ := DRel.owns (show DRel [] (w.heap.size + 2) W0 (.slice none 0 0) wc from ⟨[], GrowL.start hbc, rfl⟩)
        have HP := Lib.hid hP
        have hs := HLT.out _ hbc
        replace hzl : zs.length ≤ 5 := by rw [hzl]; simp
        generalize zs.flatMap Chg.enc = zf at *
        generalize zs.length = zn at *
        clear hP
        go_wp2_with (at_builtin; refine wpList_append_at _ _ rfl (.tmp 57) (.tmp 61) 29 rfl (w.heap.size + 2) 54 j0 _ 59 568 Tryz.underlying29 JI.out J0.out J1.out J2.out J3.out (by decide) _ _ _ rfl hO _ rfl rfl ?hsz ?h1 ?h63 ?hb ?hbase ?_)
        case hsz => rfl
        case h1 => first | exact fun u hu => Chg.one (⟨1, 0, ⟨#[]⟩, false, false, ⟨title, lang, rate, drop, last⟩, ⟨title', lang', rate', drop', last'⟩, zeroReg, zeroReg, zeroEv, zeroEv, zeroCm, zeroCm⟩ : Chg) u hu | ((repeat' apply And.intro) <;> rfl)
        case h63 => unfold maxLen; omega
        case hb => omega
        case hbase => omega
        intro v' w2' hown hgrow hat
        have R := Lib.hid (HP.out (⟨1, 0, ⟨#[]⟩, false, false, ⟨title, lang, rate, drop, last⟩, ⟨title', lang', rate', drop', last'⟩, zeroReg, zeroReg, zeroEv, zeroEv, zeroCm, zeroCm⟩ : Chg) _ v' w2' rfl hown hgrow hat (flat_chg _ rfl rfl _).1 (fun b hu => ((flat_chg _ rfl rfl wc).2 b hu).elim) hBW)
        clear hown hgrow hat
        go_wp2_with fail
        go_meet
        rw [HPRE.out]
        exact R.out
    case rest =>
    clear HX HY l l' c0 c1 c2 c3 c4 c0' c1' c2' c3' c4' hbc
    have hbc := hcut.below
    obtain ⟨av, an, ac, rfl⟩ := hcut.slice
    have HD := Lib.hid hcut
    clear hcut
    go_wp2_with fail
    refine (HKR.out _ (HB.out _ hbc)).mono ?_
    rintro e w3 ⟨kv, rfl, ho, hb3⟩
    obtain ⟨ka, kc, rfl, hKA⟩ := KeysAt.of (v := .slice av an ac) ho HD.out.lt
    have HL0 := Lib.hid (show LRel (P0) (fun l => chgReg regs regs' ⟨l.toArray⟩) encStr ls ka (w.heap.size + 2) W0 0 (.slice av an ac) w3 from ⟨by simpa using HD.out.later hBW hb3, hKA⟩)
    clear ho hb3 hKA HD hbc
    go_upto_block 2 with fail
    go_cut [9] (fun s9 wx => DRel (P0 ++ ls.flatMap (fun l => chgReg regs regs' ⟨l.toArray⟩)) (w.heap.size + 2) W0 s9 wx)
    case first =>
      go_wp2_with fail
      go_loopw [9, 69] (fun s9 i wr => ∃ k : Nat, k ≤ ls.length ∧ i = .int .i64 k ∧ LRel (P0) (fun l => chgReg regs regs' ⟨l.toArray⟩) encStr ls ka (w.heap.size + 2) W0 k s9 wr) (fun _ i _ => ls.length - (intOf i).toNat)
      case atStart => exact ⟨0, by omega, rfl, HL0.out⟩
      case round =>
        clear HL0
        obtain ⟨k, hk, rfl, hR⟩ := hrel
        have hbr := hR.1.below
        obtain ⟨av, an, ac, rfl⟩ := hR.1.slice
        by_cases hlt : k < ls.length
        · obtain ⟨kb, ko, l, rfl, hkl, hlk, hkc, _⟩ := hR.2.1.at_ hlt
          have q0 := hkc 0 _ rfl
          obtain ⟨kn, hkn⟩ : ∃ kn : ByteArray, kn = ⟨l.toArray⟩ := ⟨_, rfl⟩
          have HPU := Lib.hid (fun (w1 : World) (hb : Below wr.heap.size wr w1) => LRel.push hR hlk hBW hb (fun x => chgReg_le _ _ _))
          have HSK := Lib.hid (fun (w1 : World) (hb : Below wr.heap.size wr w1) (hf : chgReg regs regs' kn = []) => LRel.skip hR hlk hBW hb (hkn ▸ hf))
          obtain ⟨x, i1, t1, hv1, hx1, ht1⟩ := find36_val (first (fun x : Reg => x.name.toList == kn.toList) regs)
          obtain ⟨y, i2, t2, hv2, hx2, ht2⟩ := find36_val (first (fun x : Reg => x.name.toList == kn.toList) regs')
          have HCH := Lib.hid (show chgReg regs regs' kn = if (t1 != t2 || !regEq x y) = true then [⟨2, 0, kn, !t1, !t2, zeroHd, zeroHd, x, y, zeroEvC, zeroEvC, zeroCm, zeroCm⟩] else [] by rw [chgReg_of, hx1, hx2, ht1, ht2])
          have HF1 := Lib.hid (fun (w1 : World) (h : Below (w.heap.size + 2) W0 w1) => (show Calls Tryz.prog 36 #[.slice ra regs.length rc, .func (.func 35) #[] #[], .string kn] w1 (fun e w' => e = .returned (.tuple #[.agg x.enc.toArray, .int .i64 i1, .bool t1]) ∧ Below w1.heap.size w1 w') from (HFA.out kn w1 (HB.out _ h)).mono (fun e w' p => ⟨by rw [← hv1]; exact p.1, p.2⟩)))
          have HF2 := Lib.hid (fun (w1 : World) (h : Below (w.heap.size + 2) W0 w1) => (show Calls Tryz.prog 36 #[.slice ra' regs'.length rc', .func (.func 35) #[] #[], .string kn] w1 (fun e w' => e = .returned (.tuple #[.agg y.enc.toArray, .int .i64 i2, .bool t2]) ∧ Below w1.heap.size w1 w') from (HFB.out kn w1 (HB.out _ h)).mono (fun e w' p => ⟨by rw [← hv2]; exact p.1, p.2⟩)))
          have hpre : P0.length ≤ 1 := hpl
          simp only [encStr, ← hkn, Nat.add_zero, Nat.mul_one] at q0 HPU
          have HROW := Lib.hid hR.1.lt
          have HBR := Lib.hid hbr
          have hbs := HLT.out _ hbr
          clear hR hkc hlk hkn hv1 hv2 hx1 hx2 ht1 ht2
          have r1 := fun wx => run_regNe x y wx
          generalize hEQ : regEq x y = EQ at HCH r1
          clear hEQ
          obtain ⟨xnm, xtop, xheight, xleft, xwidth, xalign, xbottom⟩ := x
          obtain ⟨ynm, ytop, yheight, yleft, ywidth, yalign, ybottom⟩ := y
          simp only [Reg.enc] at r1 HF1 HF2
          go_upto_block 3 with fail
          go_cut [9] (fun s9 wx => LRel (P0) (fun l => chgReg regs regs' ⟨l.toArray⟩) encStr ls (some ⟨kb, ko, none⟩) (w.heap.size + 2) W0 (k + 1) s9 wx)
          case first =>
            go_wp2_with fail
            refine (HF1.out _ hbr).mono ?_
            rintro e w3 ⟨rfl, hb3⟩
            have hc3 := HT0.out _ _ hbr hb3
            have ha3 : ∀ o, Below (w.heap.size + 2) W0 (w3.alloc o) := fun o => hc3.alloc (HLT.out _ hc3) o
            have H3 := Lib.hid hb3
            clear hb3 HF1 q0
            go_wp2_with fail
            refine (HF2.out _ (ha3 _)).mono ?_
            rintro e w4 ⟨rfl, hb4⟩
            have hc4 := HT0.out _ _ (ha3 _) hb4
            have hs4 : w3.heap.size + 1 ≤ w4.heap.size := by have := hb4.size; simpa using this
            have hk4 : w4.heap[w3.heap.size]? = some (.cells #[.string xnm, .int .i64 xtop, .int .i64 xheight, .int .i64 xleft, .int .i64 xwidth, .int .u8 xalign, .bool xbottom] 44 (0, 0)) := (hb4.block _ (by simp)).trans (heap_alloc_last w3 _)
            have HBX := Lib.hid (fun (o : Obj) => (show Below wr.heap.size wr (w4.alloc o) from ((H3.out.alloc H3.out.size _).trans (hb4.mono (by have := H3.out.size; simp; omega))).alloc (by have := H3.out.size; omega) o))
            obtain ⟨wq, hwq⟩ : ∃ wq, wq = w4.alloc (.cells #[.string ynm, .int .i64 ytop, .int .i64 yheight, .int .i64 yleft, .int .i64 ywidth, .int .u8 yalign, .bool ybottom] 44) := ⟨_, rfl⟩
            have cq3 : ∀ (j : Nat), wq.cell? ⟨w3.heap.size, j, none⟩ = _ := fun j => cell_of_row _ _ j _ 44 (0, 0) (show wq.heap[w3.heap.size]? = _ from hwq ▸ alloc_keep hk4)
            have cq4 : ∀ (j : Nat), wq.cell? ⟨w4.heap.size, j, none⟩ = _ := fun j => cell_of_row _ _ j _ 44 (0, 0) (show wq.heap[w4.heap.size]? = _ from hwq ▸ heap_alloc_last w4 _)
            have HBQ := Lib.hid (show Below wr.heap.size wr wq from hwq ▸ HBX.out _)
            have HBS := Lib.hid (show w.heap.size + 2 ≤ wq.heap.size from by have := HBQ.out.size; omega)
            have HWQ := Lib.hid hwq
            clear hb4 HF2 hk4 H3 hc3 ha3 HBX hwq
            go_upto_region 17 with fail
            rw [← HWQ.out]
            go_cut [96] (fun sb wx => sb = .bool (t1 != t2 || !EQ) ∧ wx = wq)
            case first =>
              rcases Classical.em (t1 = t2) with hne | hne
              · subst hne
                go_wp2_with fail
                go_meet
                exact ⟨by simp, rfl⟩
              · go_wp2_with fail
                go_meet
                exact ⟨by simp [hne], rfl⟩
            case rest =>
              obtain ⟨rfl, rfl⟩ := hcut
              clear HWQ r1
              generalize (t1 != t2 || !EQ) = TB at *
              cases TB with
              | false =>
                have HS := Lib.hid (HSK.out _ HBQ.out (by rw [HCH.out]; rfl))
                clear HSK HCH HPU
                skip
                go_wp2_with fail
                go_meet
                exact HS.out
              | true =>
                have HC2 := Lib.hid (show chgReg regs regs' kn = [⟨2, 0, kn, !t1, !t2, zeroHd, zeroHd, ⟨xnm, xtop, xheight, xleft, xwidth, xalign, xbottom⟩, ⟨ynm, ytop, yheight, yleft, ywidth, yalign, ybottom⟩, zeroEvC, zeroEvC, zeroCm, zeroCm⟩] by rw [HCH.out]; rfl)
                obtain ⟨zn, zf, hzn, hO, hP⟩ := HPU.out _ HBQ.out
                have HP := Lib.hid hP
                clear hP HPU HCH HSK
                go_wp2_with (at_builtin; refine wpList_append_at _ _ rfl (.tmp 97) (.tmp 106) 29 rfl (w.heap.size + 2) 54 j0 _ 59 568 Tryz.underlying29 JI.out J0.out J1.out J2.out J3.out (by decide) _ _ _ rfl hO _ rfl rfl ?hszReg ?h1Reg ?h63Reg ?hbReg ?hbaseReg ?_)
                try (case hszReg => rfl)
                case h1Reg => first | exact fun u hu => Chg.one (⟨2, 0, kn, !t1, !t2, zeroHd, zeroHd, ⟨xnm, xtop, xheight, xleft, xwidth, xalign, xbottom⟩, ⟨ynm, ytop, yheight, yleft, ywidth, yalign, ybottom⟩, zeroEv, zeroEv, zeroCm, zeroCm⟩ : Chg) u hu | ((repeat' apply And.intro) <;> rfl)
                case h63Reg => unfold maxLen; omega
                case hbReg => omega
                try (case hbaseReg => exact HBS.out)
                intro v' w2' hown hgrow hat
                have R := Lib.hid (HP.out (⟨2, 0, kn, !t1, !t2, zeroHd, zeroHd, ⟨xnm, xtop, xheight, xleft, xwidth, xalign, xbottom⟩, ⟨ynm, ytop, yheight, yleft, ywidth, yalign, ybottom⟩, zeroEv, zeroEv, zeroCm, zeroCm⟩ : Chg) _ v' w2' HC2.out rfl hown hgrow hat (flat_chg _ rfl rfl _).1 (fun b hu => ((flat_chg _ rfl rfl wr).2 b hu).elim))
                clear hown hgrow hat HP hO HC2
                go_wp2_with fail
                go_meet
                exact R.out
          case rest =>
            clear HPU HSK HCH HF1 HF2 q0 r1
            obtain ⟨av', an', ac', rfl⟩ := hcut.1.slice
            have HC := Lib.hid hcut
            clear hcut
            go_wp2_with fail
            go_roundw
            case rel => exact ⟨k + 1, by omega, by go_num, HC.out⟩
            all_goals first | (simp [intOf]; done) | (simp [intOf]; omega)
        · obtain rfl : k = ls.length := by omega
          have HN := Lib.hid (show DRel (P0 ++ ls.flatMap (fun l => chgReg regs regs' ⟨l.toArray⟩)) (w.heap.size + 2) W0 (.slice av an ac) wr from by
            have := hR.1
            rwa [List.take_length] at this)
          clear hR
          go_wp2_with fail
          go_meet
          exact HN.out
    case rest =>
    clear HL0
    have hbc := hcut.below
    obtain ⟨av, an, ac, rfl⟩ := hcut.slice
    have HRR := HREST.out wc av an ac (by rw [HW0.out]; exact hcut)
    rename_i K0 hK0
    refine hK0 _ _ ?_
    exact HRR _ _ _ _ _ _ _ _ _ _ _ _ _ _ _ _ _ _ _ _ _ _ _ _ _ _ _ _ _ _ _ _ _ _ _ _ _ _ _ _ _ _ _ _ _ _ _ _ _ _ _ _ _ _ _ _ _ _ _ _ _ _ _ _ _ _ _ _ _ _ _ _ _ _ _ _ _ _ _ _ _ _ _ _ _ _ _ _ _ _ _ _ _ _ _ _ _ _ _ _ _ _ _ _ _ _ _ _ _ _ _ _ _ _ _ _ _ _ _ _ _ _ _ _ _ _ _ _ _ _ _ _ _ _ _ _ _ _ _ _ _ _ _ _ _ _ _ _ _ _ _ _ _ _ _ _ _ _ _ _ _ _ _ _ _ _ _ _ _ _ _ _ _ _ _ _ _ _ _ _ _ _ _ _ _ _ _ _ _ _ _ _ _ _ _ _ _ _ _ _ _ _
end Go.Proofs.YtnlnmbcaongehaaGreatDoor
namespace Go.Proofs.YtnlnmbcaongehaaGreatDoor
open Go.RowKit
/-- The first k events have IDs of their own. -/
def Dis (evs : List Ev) (k : Nat) : Prop := ∀ j x, j < k → evs[j]? = some x → (seenEv evs j x.id).isSome = false
theorem Dis.step {evs : List Ev} {k : Nat} {x : Ev} (h : Dis evs k) (hx : evs[k]? = some x) (hs : (seenEv evs k x.id).isSome = false) : Dis evs (k + 1) := by
  intro j y hj hy
  by_cases hk : j = k
  · subst hk
    obtain rfl : x = y := Option.some.inj (hx.symm.trans hy)
    exact hs
  · exact h j y (by omega) hy
end Go.Proofs.YtnlnmbcaongehaaGreatDoor
namespace Go.Proofs.YtnlnmbcaongehaaGreatDoor
open Go.RowKit
/-- A number put into an ascending list. -/
def putL : List Int → Int → List Int
  | [], id => [id]
  | z :: l, id => if z < id then z :: putL l id else if z = id then z :: l else id :: z :: l
theorem Ints.cells {w : World} {b off : Nat} {zs : List Int} (h : Ints w (some ⟨b, off, none⟩) zs) : ∀ (j : Nat) (u : Value), (zs.map (Value.int .i64))[j]? = some u → w.cell? ⟨b, off + j, none⟩ = some u := by
  intro j u hu
  rw [List.getElem?_map] at hu
  obtain ⟨z, hz, rfl⟩ := Option.map_eq_some_iff.1 hu
  rcases h with rfl | ⟨b', off', he, _, hcc⟩
  · simp at hz
  · simp only [Option.some.injEq, Addr.mk.injEq, and_true] at he
    obtain ⟨rfl, rfl⟩ := he
    have := (hcc j z hz).1 0 _ rfl
    rw [show off + j * 1 + 0 = off + j by omega] at this
    exact this
/-- A list of numbers that a call made, or none. -/
def IntsV (w : World) (v : Value) (zs : List Int) : Prop := (v = .slice none 0 0 ∧ zs = []) ∨ ∃ b off cap, v = .slice (some ⟨b, off, none⟩) zs.length cap ∧ b < w.heap.size ∧ zs.length ≤ cap ∧ cap ≤ 9223372036854775807 ∧ Ints w (some ⟨b, off, none⟩) zs
theorem IntsV.later {w w' : World} {v : Value} {zs : List Int} (h : IntsV w v zs) (hb : Below w.heap.size w w') : IntsV w' v zs := by
  rcases h with h | ⟨b, off, cap, h1, h2, h3, h5, h4⟩
  · exact .inl h
  · exact .inr ⟨b, off, cap, h1, Nat.lt_of_lt_of_le h2 hb.size, h3, h5, h4.later hb⟩
theorem IntsV.of_owns {w : World} {base : Nat} {v : Value} {zs : List Int} (h : w.ownsRow base 2 1 v zs.length (zs.map (Value.int .i64))) : IntsV w v zs := by
  have h' := h
  rcases h.2 with ⟨rfl, h0⟩ | ⟨g, cap, cur, rfl, hb, hg, hc, hm, _⟩
  · exact .inl ⟨rfl, List.eq_nil_of_length_eq_zero h0⟩
  · obtain ⟨a, c, he, hI⟩ := Ints.of_owns h'
    simp only [Value.slice.injEq] at he
    obtain ⟨rfl, _, rfl⟩ := he
    exact .inr ⟨g, 0, cap, rfl, (Array.getElem?_eq_some_iff.1 hg).1, hc, by simp only [maxLen] at hm; omega, hI⟩
/-- The same, in memory from B on. -/
def IntsB (B : Nat) (w : World) (v : Value) (zs : List Int) : Prop := IntsV w v zs ∧ ∀ b, v.ownBlock = some b → B ≤ b
theorem IntsB.later {B : Nat} {w w' : World} {v : Value} {zs : List Int} (h : IntsB B w v zs) (hb : Below w.heap.size w w') : IntsB B w' v zs := ⟨h.1.later hb, h.2⟩
theorem IntsB.of_owns {w : World} {B base : Nat} {v : Value} {zs : List Int} (hB : B ≤ base) (h : w.ownsRow base 2 1 v zs.length (zs.map (Value.int .i64))) : IntsB B w v zs := ⟨IntsV.of_owns h, fun b hb => Nat.le_trans hB (h.lt b hb).1⟩
end Go.Proofs.YtnlnmbcaongehaaGreatDoor
namespace Go.Proofs.YtnlnmbcaongehaaGreatDoor
open Go.RowKit
/-- The IDs of events put into an ascending list. -/
def insAll : List Int → List Ev → List Int
  | zs, [] => zs
  | zs, x :: l => insAll (putL zs x.id) l
end Go.Proofs.YtnlnmbcaongehaaGreatDoor
namespace Go.Proofs.YtnlnmbcaongehaaGreatDoor
open Go.RowKit
/-- The IDs of comments put into an ascending list. -/
def insAllC : List Int → List Cm → List Int
  | zs, [] => zs
  | zs, x :: l => insAllC (putL zs x.id) l
end Go.Proofs.YtnlnmbcaongehaaGreatDoor
namespace Go.Proofs.YtnlnmbcaongehaaGreatDoor
open Go.RowKit
theorem putL_mem (id x : Int) : ∀ zs : List Int, x ∈ putL zs id ↔ x = id ∨ x ∈ zs
  | [] => by simp [putL]
  | z :: l => by
    have ih := putL_mem id x l
    unfold putL
    split
    · rw [List.mem_cons, ih, List.mem_cons]
      constructor
      · rintro (h | h | h)
        · exact .inr (.inl h)
        · exact .inl h
        · exact .inr (.inr h)
      · rintro (h | h | h)
        · exact .inr (.inl h)
        · exact .inl h
        · exact .inr (.inr h)
    · split
      · rename_i h
        subst h
        rw [List.mem_cons]
        constructor
        · exact fun h => .inr h
        · rintro (h | h)
          · exact .inl h
          · exact h
      · rw [List.mem_cons]
theorem putL_asc (id : Int) : ∀ zs : List Int, zs.Pairwise (· < ·) → (putL zs id).Pairwise (· < ·)
  | [], _ => by simp [putL]
  | z :: l, h => by
    rw [List.pairwise_cons] at h
    unfold putL
    split
    · rename_i hz
      rw [List.pairwise_cons]
      refine ⟨fun y hy => ?_, putL_asc id l h.2⟩
      rcases (putL_mem id y l).1 hy with rfl | hy
      · exact hz
      · exact h.1 y hy
    · split
      · rw [List.pairwise_cons]; exact h
      · rename_i h1 h2
        rw [List.pairwise_cons, List.pairwise_cons]
        refine ⟨fun y hy => ?_, h⟩
        rcases List.mem_cons.1 hy with rfl | hy
        · omega
        · have := h.1 y hy; omega
theorem insAll_asc : ∀ (evs : List Ev) (zs : List Int), zs.Pairwise (· < ·) → (insAll zs evs).Pairwise (· < ·)
  | [], zs, h => h
  | x :: l, zs, h => insAll_asc l _ (putL_asc x.id zs h)
theorem insAll_mem (y : Int) : ∀ (evs : List Ev) (zs : List Int), y ∈ insAll zs evs ↔ y ∈ zs ∨ y ∈ evs.map (fun x : Ev => x.id)
  | [], zs => by simp [insAll]
  | x :: l, zs => by
    rw [insAll, insAll_mem y l, putL_mem, List.map_cons, List.mem_cons]
    constructor
    · rintro ((h | h) | h)
      · exact .inr (.inl h)
      · exact .inl h
      · exact .inr (.inr h)
    · rintro (h | h | h)
      · exact .inl (.inr h)
      · exact .inl (.inl h)
      · exact .inr h
theorem insAllC_asc : ∀ (cms : List Cm) (zs : List Int), zs.Pairwise (· < ·) → (insAllC zs cms).Pairwise (· < ·)
  | [], zs, h => h
  | x :: l, zs, h => insAllC_asc l _ (putL_asc x.id zs h)
theorem insAllC_mem (y : Int) : ∀ (cms : List Cm) (zs : List Int), y ∈ insAllC zs cms ↔ y ∈ zs ∨ y ∈ cms.map (fun x : Cm => x.id)
  | [], zs => by simp [insAllC]
  | x :: l, zs => by
    rw [insAllC, insAllC_mem y l, putL_mem, List.map_cons, List.mem_cons]
    constructor
    · rintro ((h | h) | h)
      · exact .inr (.inl h)
      · exact .inl h
      · exact .inr (.inr h)
    · rintro (h | h | h)
      · exact .inl (.inr h)
      · exact .inl (.inl h)
      · exact .inr h
theorem sortI_asc (zs : List Int) : (Lib.compact (sortI zs)).Pairwise (· < ·) ∧ ∀ x, x ∈ Lib.compact (sortI zs) ↔ x ∈ zs := by
  have hs : (sortI zs).Pairwise (· ≤ ·) := by
    have := List.pairwise_mergeSort (le := fun x y : Int => decide (x ≤ y)) (fun a b c h1 h2 => by simp at *; omega) (fun a b => by simp; omega) zs
    exact this.imp fun h => by simpa using h
  obtain ⟨h1, h2⟩ := compact_sorted (α := Int) (· ≤ ·) (· < ·) (fun a b h hn => by omega) (fun a b c h h' => by omega) (sortI zs) hs
  refine ⟨h1, fun x => ?_⟩
  rw [h2]
  exact List.mem_mergeSort
theorem evKeys_ref (a b : Doc) : insAll (insAll [] a.evs) b.evs = evKeys a b := by
  refine asc_ext (· < ·) (fun a h => by omega) (fun a b h h' => by omega) _ _ (insAll_asc _ _ (insAll_asc _ _ List.Pairwise.nil)) (sortI_asc _).1 fun x => ?_
  unfold evKeys
  rw [insAll_mem, insAll_mem, (sortI_asc _).2, List.map_append, List.mem_append]
  simp
theorem cmKeys_ref (a b : Doc) : insAllC (insAllC [] a.cms) b.cms = cmKeys a b := by
  refine asc_ext (· < ·) (fun a h => by omega) (fun a b h h' => by omega) _ _ (insAllC_asc _ _ (insAllC_asc _ _ List.Pairwise.nil)) (sortI_asc _).1 fun x => ?_
  unfold cmKeys
  rw [insAllC_mem, insAllC_mem, (sortI_asc _).2, List.map_append, List.mem_append]
  simp
/-- A name put into an ascending list. -/
def putS : List ByteArray → ByteArray → List ByteArray
  | [], s => [s]
  | z :: l, s => if Op.bytesLess z.toList s.toList = true then z :: putS l s else if (z.toList == s.toList) = true then z :: l else s :: z :: l
def insNames : List ByteArray → List Reg → List ByteArray
  | zs, [] => zs
  | zs, x :: l => insNames (putS zs x.name) l
theorem ba_ext {a b : ByteArray} (h : a.toList = b.toList) : a = b := by
  rw [Lib.toList_data, Lib.toList_data] at h
  cases a; cases b
  congr 1
  exact Array.toList_inj.1 h
theorem bl_lt (a b : ByteArray) : Op.bytesLess a.toList b.toList = true ↔ a.data.toList < b.data.toList := by
  rw [bytesLess_eq, Lib.toList_data, Lib.toList_data]
  simp
theorem putS_len (s : ByteArray) : ∀ zs : List ByteArray, zs.length ≤ (putS zs s).length ∧ (putS zs s).length ≤ zs.length + 1
  | [] => by simp [putS]
  | z :: l => by
    have := putS_len s l
    unfold putS
    repeat' split
    all_goals simp only [List.length_cons]; omega
def baLt (a b : ByteArray) : Prop := a.data.toList < b.data.toList
theorem putS_mem (s x : ByteArray) : ∀ zs : List ByteArray, x ∈ putS zs s ↔ x = s ∨ x ∈ zs
  | [] => by simp [putS]
  | z :: l => by
    have ih := putS_mem s x l
    unfold putS
    split
    · rw [List.mem_cons, ih, List.mem_cons]
      constructor
      · rintro (h | h | h)
        · exact .inr (.inl h)
        · exact .inl h
        · exact .inr (.inr h)
      · rintro (h | h | h)
        · exact .inr (.inl h)
        · exact .inl h
        · exact .inr (.inr h)
    · split
      · rename_i h
        have h := ba_ext (by simpa using h)
        subst h
        rw [List.mem_cons]
        constructor
        · exact fun h => .inr h
        · rintro (h | h)
          · exact .inl h
          · exact h
      · rw [List.mem_cons]
theorem bs_total {a b : List UInt8} (h1 : ¬ a < b) (h2 : ¬ a = b) : b < a := by
  rcases Classical.em (b < a) with h | h
  · exact h
  · exact absurd (List.le_antisymm (List.not_lt.1 h) (List.not_lt.1 h1)) h2
theorem putS_asc (s : ByteArray) : ∀ zs : List ByteArray, zs.Pairwise baLt → (putS zs s).Pairwise baLt
  | [], _ => by simp [putS]
  | z :: l, h => by
    rw [List.pairwise_cons] at h
    unfold putS
    split
    · rename_i hz
      rw [List.pairwise_cons]
      refine ⟨fun y hy => ?_, putS_asc s l h.2⟩
      rcases (putS_mem s y l).1 hy with rfl | hy
      · exact (bl_lt _ _).1 hz
      · exact h.1 y hy
    · split
      · rw [List.pairwise_cons]; exact h
      · rename_i h1 h2
        have hsz : baLt s z := bs_total (fun h => h1 ((bl_lt _ _).2 h)) (fun h => h2 (by rw [Lib.toList_data, Lib.toList_data, h]; simp))
        rw [List.pairwise_cons, List.pairwise_cons]
        refine ⟨fun y hy => ?_, h⟩
        rcases List.mem_cons.1 hy with rfl | hy
        · exact hsz
        · exact List.lt_trans hsz (h.1 y hy)
theorem insNames_asc : ∀ (rs : List Reg) (zs : List ByteArray), zs.Pairwise baLt → (insNames zs rs).Pairwise baLt
  | [], zs, h => h
  | x :: l, zs, h => insNames_asc l _ (putS_asc x.name zs h)
theorem insNames_mem (y : ByteArray) : ∀ (rs : List Reg) (zs : List ByteArray), y ∈ insNames zs rs ↔ y ∈ zs ∨ y ∈ rs.map (fun x : Reg => x.name)
  | [], zs => by simp [insNames]
  | x :: l, zs => by
    rw [insNames, insNames_mem y l, putS_mem, List.map_cons, List.mem_cons]
    constructor
    · rintro ((h | h) | h)
      · exact .inr (.inl h)
      · exact .inl h
      · exact .inr (.inr h)
    · rintro (h | h | h)
      · exact .inl (.inr h)
      · exact .inl (.inl h)
      · exact .inr h
theorem insNames_len : ∀ (rs : List Reg) (zs : List ByteArray), (insNames zs rs).length ≤ zs.length + rs.length
  | [], zs => by simp [insNames]
  | x :: l, zs => by
    have h1 := insNames_len l (putS zs x.name)
    have h2 := (putS_len x.name zs).2
    rw [insNames, List.length_cons]
    omega
theorem sortS_asc (zs : List (List UInt8)) : (Lib.compact (sortS zs)).Pairwise (· < ·) ∧ ∀ x, x ∈ Lib.compact (sortS zs) ↔ x ∈ zs := by
  have hs : (sortS zs).Pairwise (· ≤ ·) := by
    have := List.pairwise_mergeSort (le := fun x y : List UInt8 => decide (x ≤ y)) (fun a b c h1 h2 => by simp at *; exact List.le_trans h1 h2) (fun a b => by simp; exact List.le_total a b) zs
    exact this.imp fun h => by simpa using h
  obtain ⟨h1, h2⟩ := compact_sorted (α := List UInt8) (· ≤ ·) (· < ·) (fun a b h hn => bs_total (fun h' => absurd h' (List.not_lt.2 h)) (fun e => hn e.symm)) (fun a b c h h' => List.lt_of_le_of_lt h h') (sortS zs) hs
  refine ⟨h1, fun x => ?_⟩
  rw [h2]
  exact List.mem_mergeSort
theorem regKeys_ref (a b : Doc) : insNames [] (a.regs ++ b.regs) = regKeys a b := by
  refine asc_ext baLt (fun a h => List.lt_irrefl _ h) (fun a b h h' => List.lt_irrefl _ (List.lt_trans h h')) _ _ (insNames_asc _ _ List.Pairwise.nil) ?_ fun x => ?_
  · unfold regKeys
    rw [List.pairwise_map]
    exact (sortS_asc _).1.imp fun h => by simpa [baLt] using h
  · unfold regKeys
    rw [insNames_mem]
    constructor
    · rintro (h | h)
      · simp at h
      · obtain ⟨r, hr, rfl⟩ := List.mem_map.1 h
        exact List.mem_map.2 ⟨r.name.data.toList, ((sortS_asc _).2 _).2 (List.mem_map.2 ⟨r, hr, rfl⟩), by simp⟩
    · intro h
      obtain ⟨l, hl, rfl⟩ := List.mem_map.1 h
      obtain ⟨r, hr, rfl⟩ := List.mem_map.1 (((sortS_asc _).2 _).1 hl)
      exact .inr (List.mem_map.2 ⟨r, hr, by simp⟩)
end Go.Proofs.YtnlnmbcaongehaaGreatDoor
namespace Go.Proofs.YtnlnmbcaongehaaGreatDoor
open Go.RowKit
def encN (s : ByteArray) : List Value := [.string s]
abbrev Strs (w : World) (a : Option Addr) (zs : List ByteArray) : Prop := SliceOf 1 encN Flat w a zs
theorem encN_map (zs : List ByteArray) : zs.flatMap encN = zs.map Value.string := by
  induction zs with
  | nil => rfl
  | cons z l ih => rw [List.flatMap_cons, ih]; rfl
theorem Strs.cells {w : World} {b off : Nat} {zs : List ByteArray} (h : Strs w (some ⟨b, off, none⟩) zs) : ∀ (j : Nat) (u : Value), (zs.map Value.string)[j]? = some u → w.cell? ⟨b, off + j, none⟩ = some u := by
  intro j u hu
  rw [← encN_map] at hu
  exact flat_cells (Ok := Flat) (k := 1) (enc := encN) (fun _ => rfl) h j u hu
/-- A list of names that a call made, or none, in memory from B on. -/
def StrsB (B : Nat) (w : World) (v : Value) (zs : List ByteArray) : Prop := ((v = .slice none 0 0 ∧ zs = []) ∨ ∃ b off cap, v = .slice (some ⟨b, off, none⟩) zs.length cap ∧ b < w.heap.size ∧ zs.length ≤ cap ∧ cap ≤ 9223372036854775807 ∧ Strs w (some ⟨b, off, none⟩) zs) ∧ ∀ b, v.ownBlock = some b → B ≤ b
theorem StrsB.later {B : Nat} {w w' : World} {v : Value} {zs : List ByteArray} (h : StrsB B w v zs) (hb : Below w.heap.size w w') : StrsB B w' v zs := by
  refine ⟨?_, h.2⟩
  rcases h.1 with h | ⟨b, off, cap, h1, h2, h3, h5, h4⟩
  · exact .inl h
  · exact .inr ⟨b, off, cap, h1, Nat.lt_of_lt_of_le h2 hb.size, h3, h5, SliceOf.keeps Flat.keeps _ _ _ _ hb h4⟩
theorem StrsB.of_owns {w : World} {B base : Nat} {v : Value} {zs : List ByteArray} (hB : B ≤ base) (h : w.ownsRow base 9 1 v zs.length (zs.map Value.string)) : StrsB B w v zs := by
  refine ⟨?_, fun b hb => Nat.le_trans hB (h.lt b hb).1⟩
  rw [← encN_map] at h
  obtain ⟨a, c, he, hI⟩ := sliceOf_owns (k := 1) (enc := encN) (Ok := Flat) (fun _ => rfl) h (fun _ _ => trivial)
  rcases h.2 with ⟨rfl, h0⟩ | ⟨g, cap, cur, rfl, hb, hg, hc, hm, _⟩
  · exact .inl ⟨rfl, List.eq_nil_of_length_eq_zero h0⟩
  · simp only [Value.slice.injEq] at he
    obtain ⟨rfl, _, rfl⟩ := he
    exact .inr ⟨g, 0, cap, rfl, (Array.getElem?_eq_some_iff.1 hg).1, hc, by simp only [maxLen] at hm; omega, hI⟩
end Go.Proofs.YtnlnmbcaongehaaGreatDoor
namespace Go.Proofs.YtnlnmbcaongehaaGreatDoor
open Go.RowKit
/-- Rows that a call copies one by one. -/
abbrev GrowRow := GrowL 78 1 Row.enc Row.lies Row.uses
theorem Row.deep : Deep Row.lies Row.uses := ⟨fun x w w' h hs hb => Row.frame h hs hb, fun x w b h hu => Row.uses_lt h hu⟩
def CopyRel (rows : List Row) (w : World) (v : Value) (k : Nat) (wr : World) : Prop := ∃ zs : List Row, zs.length = k ∧ zs.map Row.runs = (rows.take k).map Row.runs ∧ GrowRow w.heap.size w v zs wr
theorem CopyRel.done {rows : List Row} {w wr : World} {v : Value} (h : CopyRel rows w v rows.length wr) : RowsCopy rows w (.returned v) wr := by
  obtain ⟨zs, h1, h2, h3⟩ := h
  obtain ⟨a, c, rfl, hS⟩ := GrowL.slice (k := 1) (enc := Row.enc) (fun _ => rfl) h3
  refine ⟨a, c, zs, rfl, hS, by rw [h2, List.take_length], fun b hu => ?_, h3.2.2⟩
  rcases hu with ⟨hne, ad, rfl, rfl⟩ | ⟨r, hr, hu⟩
  · exact (h3.1.lt _ rfl).1
  · exact ((h3.2.1 r hr).2 b hu).2
theorem take_snoc1 {α : Type} (xs : List α) (k : Nat) (x : α) (h : xs[k]? = some x) : xs.take (k + 1) = xs.take k ++ [x] := by
  rw [List.take_add_one, h]
  rfl
theorem CopyRel.push {rows : List Row} {w wr w1 : World} {v : Value} {k : Nat} {r : Row} {a2 : Option Addr} {c2 : Nat} (h : CopyRel rows w v k wr) (hk : rows[k]? = some r) (hb : Below wr.heap.size wr w1) (hS : w1.ownsRow (wr.heap.size + 1) 75 5 (.slice a2 r.runs.length c2) r.runs.length (r.runs.flatMap Run.enc)) :
    ∃ zs : List Row, zs.length = k ∧ w1.ownsRow w.heap.size 78 1 v k (zs.flatMap Row.enc) ∧ (∀ v' w2, w2.ownsRow w.heap.size 78 1 v' (k + 1) (zs.flatMap Row.enc ++ [.slice a2 r.runs.length c2]) → (w1.alloc (.cells #[.slice a2 r.runs.length c2] 78)).grownBy w2 v.ownBlock → (v'.ownBlock = v.ownBlock ∨ v'.ownBlock = some (w1.heap.size + 1)) → CopyRel rows w v' (k + 1) w2) := by
  obtain ⟨zs, h1, h2, h3⟩ := h
  have h4 := GrowL.later Row.deep h3 (Nat.le_refl _) hb
  refine ⟨zs, h1, h1 ▸ h4.1, fun v' w2 hown hg hat => ⟨zs ++ [⟨a2, c2, r.runs⟩], by rw [List.length_append, h1]; rfl, ?_, GrowL.push Row.deep h4 (Nat.le_refl _) rfl (by rw [h1]; exact hown) hg hat ?_ ?_⟩⟩
  · rw [take_snoc1 rows k r hk, List.map_append, List.map_append, h2]
    rfl
  · obtain ⟨a3, c3, he, hS'⟩ := sliceOf_owns (k := 5) (enc := Run.enc) (Ok := Flat) (fun _ => rfl) hS (fun _ _ => trivial)
    simp only [Value.slice.injEq] at he
    obtain ⟨rfl, _, _⟩ := he
    exact hS'
  · rintro b ⟨hne, ad, had, rfl⟩
    have had : a2 = some ad := had
    subst had
    have h5 := (hS.lt ad.block rfl).1
    have h6 := h3.2.2.size
    refine ⟨fun e => ?_, by omega⟩
    have := (h3.1.lt _ e).2
    omega
end Go.Proofs.YtnlnmbcaongehaaGreatDoor
namespace Go.Proofs.YtnlnmbcaongehaaGreatDoor
open Go.RowKit
attribute [local go_sem ↓] Go.wp_at_zero Go.wp_at_succ
theorem evc_fits {x : Ev} {c : EvC} (h : x.c = c) (hc : c.rows.length ≤ 4000000 ∧ ∀ r ∈ c.rows, r.length ≤ 4000000) : x.rows.length ≤ 4000000 ∧ ∀ r ∈ x.rows, r.runs.length ≤ 4000000 := by
  subst h
  simp only [Ev.c, List.length_map, List.mem_map, forall_exists_index, and_imp] at hc
  exact ⟨hc.1, fun r hr => hc.2 _ r hr rfl⟩
theorem evc_got {xs : List Ev} (hf : ∀ x ∈ xs, x.rows.length ≤ 4000000 ∧ ∀ r ∈ x.rows, r.runs.length ≤ 4000000) (p : Ev → Bool) : ((xs.find? p).getD zeroEv).c.rows.length ≤ 4000000 ∧ ∀ r ∈ ((xs.find? p).getD zeroEv).c.rows, r.length ≤ 4000000 := by
  cases h : xs.find? p with
  | none => exact ⟨by simp [zeroEv, Ev.c], fun r hr => by simp [zeroEv, Ev.c] at hr⟩
  | some x =>
    have := hf x (List.mem_of_find?_eq_some h)
    simp only [Option.getD_some, Ev.c, List.length_map, List.mem_map, forall_exists_index, and_imp]
    exact ⟨this.1, fun r y hy e => e ▸ this.2 y hy⟩
theorem refAll_len {a b : Doc} (hfa : a.fits) (hfb : b.fits) : (evKeys a b).length ≤ 8000000 ∧ (cmKeys a b).length ≤ 8000000 :=
  ⟨len_compact _ _ (by unfold sortI; rw [List.length_mergeSort, List.length_map, List.length_append]; have := hfa.2.2.2.2.2.2.2.2.1; have := hfb.2.2.2.2.2.2.2.2.1; omega), len_compact _ _ (by unfold sortI; rw [List.length_mergeSort, List.length_map, List.length_append]; have := hfa.2.2.2.2.2.2.2.2.2.2; have := hfb.2.2.2.2.2.2.2.2.2.2; omega)⟩
end Go.Proofs.YtnlnmbcaongehaaGreatDoor
namespace Go.Proofs.YtnlnmbcaongehaaGreatDoor
open Go.RowKit
attribute [local go_sem ↓] Go.wp_at_zero Go.wp_at_succ
theorem allEq_refl {α : Type} (eq : α → α → Bool) (h : ∀ x, eq x x = true) : ∀ xs : List α, Lib.allEq eq xs xs = true
  | [] => by rw [Lib.allEq]
  | x :: l => by rw [Lib.allEq, h x, allEq_refl eq h l]; rfl
theorem runEq_refl (x : Run) : runEq x x = true := by simp [runEq]
theorem rowsEq_map : ∀ xs ys : List Row, xs.map Row.runs = ys.map Row.runs → rowsEq xs ys = true
  | [], [], _ => by unfold rowsEq; rw [Lib.allEq]
  | [], y :: l, h => by simp at h
  | x :: l, [], h => by simp at h
  | x :: l, y :: m, h => by
    simp only [List.map_cons, List.cons.injEq] at h
    have ih := rowsEq_map l m h.2
    unfold rowsEq at ih ⊢
    rw [Lib.allEq, ih, rowEq, h.1, allEq_refl runEq runEq_refl]
    rfl
theorem evEq_c (x y : Ev) (h : x.c = y.c) : evEq x y = true := by
  simp only [Ev.c, EvC.mk.injEq] at h
  obtain ⟨h1, h2, h3, h4, h5, h6, h7⟩ := h
  unfold evEq
  rw [h1, h2, h3, h4, h5, h6, rowsEq_map _ _ h7]
  simp
theorem hdEq_refl (x : Hd) : hdEq x x = true := by simp [hdEq]
theorem regEq_refl (x : Reg) : regEq x x = true := by simp [regEq]
theorem cmEq_refl (x : Cm) : cmEq x x = true := by simp [cmEq]
/-- The rows of a change's events are not too many. -/
def Chg.fits (x : Chg) : Prop := (x.oe.rows.length ≤ 4000000 ∧ ∀ r ∈ x.oe.rows, r.runs.length ≤ 4000000) ∧ (x.ne.rows.length ≤ 4000000 ∧ ∀ r ∈ x.ne.rows, r.runs.length ≤ 4000000)
/-- Changes in a row of memory. -/
abbrev ChgAt (w : World) (a : Option Addr) (xs : List Chg) : Prop := SliceOf 59 Chg.enc Chg.lies w a xs
end Go.Proofs.YtnlnmbcaongehaaGreatDoor
namespace Go.Proofs.YtnlnmbcaongehaaGreatDoor
open Go.RowKit
theorem diff_calls (a b : Doc) (w : World) (hE : Env w) (ha : a.lies w) (hb : b.lies w) (hfa : a.fits) (hfb : b.fits) : Calls Tryz.prog 11 #[.agg a.enc.toArray, .agg b.enc.toArray] w (DiffPost a b w) := by
  by_cases h0 : docErr a = 0
  · by_cases h1 : docErr b = 0
    · exact diff_ok a b w hE ha hb hfa hfb h0 h1
    · exact diff_errB a b w hE ha hb hfa hfb h0 h1
  · exact diff_errA a b w hE ha hb hfa hfb h0
/-- The error and the changes of two documents, whatever they are. -/
def diffErr (a b : Doc) : Int := if docErr a ≠ 0 then docErr a else docErr b
def diffList (a b : Doc) : List ChgC := if docErr a ≠ 0 then [] else if docErr b ≠ 0 then [] else chgs a b
def DiffForm (a b : Doc) (w : World) (e : Ending) (w' : World) : Prop := ∃ (A : Option Addr) (xs : List Chg) (c : Nat), e = .returned (.tuple #[.slice A xs.length c, .int .i64 (diffErr a b)]) ∧ ChgAt w' A xs ∧ xs.map Chg.c = diffList a b ∧ Below w.heap.size w w'
theorem DiffForm.of {a b : Doc} {w : World} (e : Ending) (w' : World) (h : DiffPost a b w e w') : DiffForm a b w e w' := by
  unfold DiffPost at h
  unfold DiffForm diffErr diffList
  by_cases h0 : docErr a ≠ 0
  · rw [if_pos h0] at h
    rw [if_pos h0, if_pos h0]
    exact ⟨none, [], 0, h.1, .inl rfl, rfl, h.2⟩
  · rw [if_neg h0] at h
    rw [if_neg h0, if_neg h0]
    by_cases h1 : docErr b ≠ 0
    · rw [if_pos h1] at h
      rw [if_pos h1]
      exact ⟨none, [], 0, h.1, .inl rfl, rfl, h.2⟩
    · rw [if_neg h1] at h
      rw [if_neg h1]
      obtain ⟨v, xs, rfl, hG, hc⟩ := h
      obtain ⟨A, c, rfl, hS⟩ := GrowL.slice (k := 59) (enc := Chg.enc) Chg.len hG
      have h2 : docErr b = 0 := by simpa using h1
      exact ⟨A, xs, c, by rw [h2], hS, hc, hG.2.2⟩
/-- The rows of an event's contents are not too many. -/
def EvOk (e : EvC) : Prop := e.rows.length ≤ 4000000 ∧ ∀ r ∈ e.rows, r.length ≤ 4000000
theorem evOk_zero : EvOk zeroEvC := ⟨by decide, fun r hr => by simp [zeroEvC, zeroEv, Ev.c] at hr⟩
theorem doc_rows {a : Doc} (hfa : a.fits) : ∀ x ∈ a.evs, x.rows.length ≤ 4000000 ∧ ∀ r ∈ x.rows, r.runs.length ≤ 4000000 := fun x hx => ⟨(hfa.2.2.2.2.2.2.2.1 x hx).2.2.2.2.2.2.2.2, fun r hr => ((hfa.2.2.2.2.2.2.2.1 x hx).2.2.2.2.2.2.2.1 r hr).2.1⟩
theorem chgs_ok {a b : Doc} (hfa : a.fits) (hfb : b.fits) : ∀ c ∈ chgs a b, EvOk c.oe ∧ EvOk c.ne := by
  intro c hc
  unfold chgs chgsOf at hc
  rcases List.mem_append.1 hc with hc | hc
  · unfold chgHead at hc
    split at hc
    · simp at hc
    · obtain rfl := List.mem_singleton.1 hc
      exact ⟨evOk_zero, evOk_zero⟩
  · rcases List.mem_append.1 hc with hc | hc
    · obtain ⟨k, _, hc⟩ := List.mem_flatMap.1 hc
      unfold chgReg at hc
      split at hc
      · obtain rfl := List.mem_singleton.1 hc
        exact ⟨evOk_zero, evOk_zero⟩
      · simp at hc
    · rcases List.mem_append.1 hc with hc | hc
      · obtain ⟨k, _, hc⟩ := List.mem_flatMap.1 hc
        unfold chgEv at hc
        split at hc
        · obtain rfl := List.mem_singleton.1 hc
          exact ⟨evc_got (doc_rows hfa) _, evc_got (doc_rows hfb) _⟩
        · simp at hc
      · obtain ⟨k, _, hc⟩ := List.mem_flatMap.1 hc
        unfold chgCm at hc
        split at hc
        · obtain rfl := List.mem_singleton.1 hc
          exact ⟨evOk_zero, evOk_zero⟩
        · simp at hc
theorem chgs_len {a b : Doc} (hfa : a.fits) (hfb : b.fits) : (chgs a b).length ≤ 40000000 := by
  unfold chgs chgsOf
  rw [List.length_append, List.length_append, List.length_append]
  have h1 := chgHead_le a.hd b.hd
  have h2 := flat_le (chgReg a.regs b.regs) (fun x => chgReg_le _ _ _) (regKeys a b)
  have h3 := flat_le (chgEv a.evs b.evs) (fun x => chgEv_le _ _ _) (evKeys a b)
  have h4 := flat_le (chgCm a.cms b.cms) (fun x => chgCm_le _ _ _) (cmKeys a b)
  have h5 := insNames_len (a.regs ++ b.regs) []
  rw [regKeys_ref, List.length_append, List.length_nil] at h5
  have h6 := (refAll_len hfa hfb).1
  have h7 := (refAll_len hfa hfb).2
  have := hfa.2.2.2.2.2.2.1
  have := hfb.2.2.2.2.2.2.1
  omega
theorem list_ok {a b : Doc} (hfa : a.fits) (hfb : b.fits) {xs : List Chg} (h : xs.map Chg.c = diffList a b) : (∀ x ∈ xs, x.fits) ∧ xs.length ≤ 40000000 := by
  have hs : diffList a b = [] ∨ diffList a b = chgs a b := by
    unfold diffList
    split
    · exact .inl rfl
    · split
      · exact .inl rfl
      · exact .inr rfl
  refine ⟨fun x hx => ?_, ?_⟩
  · have hm : x.c ∈ diffList a b := h ▸ List.mem_map.2 ⟨x, hx, rfl⟩
    rcases hs with hs | hs
    · rw [hs] at hm
      simp at hm
    · rw [hs] at hm
      obtain ⟨h1, h2⟩ := chgs_ok hfa hfb _ hm
      exact ⟨evc_fits (x := x.oe) rfl h1, evc_fits (x := x.ne) rfl h2⟩
  · have hl := congrArg List.length h
    rw [List.length_map] at hl
    rcases hs with hs | hs
    · rw [hs, List.length_nil] at hl
      omega
    · rw [hs] at hl
      have := chgs_len hfa hfb
      omega
end Go.Proofs.YtnlnmbcaongehaaGreatDoor
