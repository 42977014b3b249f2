/- The changes between two documents: how large they are, and what Patch answers for them. In a round of a range over a function: what was walked as in any other body holds there too, where there is no 'defer'. slices.Backward over changes: the contract of its iterator. Laws of a round of Invert: the halves of a change change places (the program's and the reference's). (printed by gen_invert.py) Memory of Invert's own: changes in a row of its own; what lies there is fixed by the cells. -/
import Derived.RangeFuncNested
import Derived.RangeFuncCalls
import Derived.Deep.RegionHeld
import Derived.TacticsIn
import Derived.OrdersIn
import Derived.Deep.MidRow
import Derived.RangeFuncBox
import Derived.RangeFuncLeaves
import Derived.Shelf.Abstract
import Derived.WalkKit
import Derived.OwnWalkIn
import Derived.TacticsInMore
import Derived.LoopNIn
import Derived.LoopIn
import Derived.Great.BuildSlice
import Derived.Test.YtnlnmbcaongehaaGreatDoorE03
import Derived.Test.YtnlnmbcaongehaaGreatDoorBase06
import Derived.Test.YtnlnmbcaongehaaGreatDoorE00
import Derived.Test.YtnlnmbcaongehaaGreatDoorBase16
import Derived.Test.YtnlnmbcaongehaaGreatDoorBase12
import Derived.Test.YtnlnmbcaongehaaGreatDoorBase15
import Derived.Test.YtnlnmbcaongehaaGreatDoorBase14
import Derived.Test.YtnlnmbcaongehaaGreatDoorBase13
import Derived.Test.YtnlnmbcaongehaaGreatDoorBase03
import Derived.Test.YtnlnmbcaongehaaGreatDoorBase02
import Derived.Test.YtnlnmbcaongehaaGreatDoorBase01
import Derived.Test.YtnlnmbcaongehaaGreatDoorBase00
import Derived.Test.YtnlnmbcaongehaaGreatDoorBase04
import Derived.Test.YtnlnmbcaongehaaGreatDoorBase05
set_option linter.unusedVariables false
set_option linter.unusedSimpArgs false
namespace Go.Proofs.YtnlnmbcaongehaaGreatDoor
open Go.RowKit
/-- Both sides of a change are small. -/
def ChgC.both (c : ChgC) : Prop := c.full ∧ c.oh.fits ∧ c.rg.fits ∧ c.oc.fits
theorem ChgC.both.inv {c : ChgC} (h : c.both) : (invC c).both := by
  obtain ⟨⟨h1, h2, h3, h4, h5, h6, h7, h8⟩, h9, h10, h11⟩ := h
  exact ⟨⟨h1, h2, h3, h9, h10, h7, h6, h11⟩, h4, h5, h8⟩
theorem zeroHd_fits : zeroHd.fits := by simp only [zeroHd, Hd.fits, i64]; decide
theorem zeroReg_fits : zeroReg.fits := by simp only [zeroReg, Reg.fits, i64]; decide
theorem zeroCm_fits : zeroCm.fits := by simp only [zeroCm, Cm.fits, i64]; decide
theorem zeroEv_fits : zeroEv.fits := by
  simp only [zeroEv, Ev.fits, i64]
  exact ⟨by decide, by decide, by decide, by decide, by decide, by decide, by decide, fun r hr => (by simp at hr), by decide⟩
theorem zeroEvC_fits : zeroEvC.fits := (Ev.fits_c zeroEv).2 zeroEv_fits
theorem getD_of {α : Type} {F : α → Prop} {l : List α} {p : α → Bool} {z : α} (hz : F z) (h : ∀ x ∈ l, F x) : F ((l.find? p).getD z) := by
  cases e : l.find? p with
  | none => exact hz
  | some v => exact h v (List.mem_of_find?_eq_some e)
theorem some_of {α : Type} {l m : List α} {p : α → Bool} (h : (l.find? p).isSome = true ∨ (m.find? p).isSome = true) : ∃ x, (x ∈ l ∨ x ∈ m) ∧ p x = true := by
  rcases h with h | h
  · obtain ⟨v, hv⟩ := Option.isSome_iff_exists.1 h
    exact ⟨v, .inl (List.mem_of_find?_eq_some hv), List.find?_some hv⟩
  · obtain ⟨v, hv⟩ := Option.isSome_iff_exists.1 h
    exact ⟨v, .inr (List.mem_of_find?_eq_some hv), List.find?_some hv⟩
theorem i64_zero : i64 0 := ⟨by decide, by decide⟩
theorem doc_hd_fits {d : Doc} (h : d.fits) : d.hd.fits := ⟨h.1, h.2.1, h.2.2.1, h.2.2.2.1, h.2.2.2.2.1⟩
theorem chgs_both {a b : Doc} (hfa : a.fits) (hfb : b.fits) {c : ChgC} (hc : c ∈ chgs a b) : c.both := by
  have ra := hfa.2.2.2.2.2.1
  have rb := hfb.2.2.2.2.2.1
  have ea := hfa.2.2.2.2.2.2.2.1
  have eb := hfb.2.2.2.2.2.2.2.1
  have ca := hfa.2.2.2.2.2.2.2.2.2.1
  have cb := hfb.2.2.2.2.2.2.2.2.2.1
  rcases chgs_mem hc with h | ⟨k, _, h⟩ | ⟨k, _, h⟩ | ⟨k, _, h⟩
  · unfold chgHead at h
    split at h
    · simp at h
    · obtain rfl := List.mem_singleton.1 h
      exact ⟨⟨(show (0 : Int) ≤ 1 by decide), i64_zero, (show (0 : Nat) ≤ 4000000 by decide), doc_hd_fits hfb, zeroReg_fits, zeroEvC_fits, zeroEvC_fits, zeroCm_fits⟩, doc_hd_fits hfa, zeroReg_fits, zeroCm_fits⟩
  · have hs := (chgReg_at h).2.2.1
    unfold chgReg at h
    split at h
    · obtain rfl := List.mem_singleton.1 h
      obtain ⟨x, hx, hp⟩ := some_of hs.2.2.2.2
      have hk : k.size ≤ 4000000 := regAt_name hp ▸ (hx.elim (fun h => (ra x h).1) fun h => (rb x h).1)
      exact ⟨⟨(show (0 : Int) ≤ 2 by decide), i64_zero, hk, zeroHd_fits, getD_of zeroReg_fits rb, zeroEvC_fits, zeroEvC_fits, zeroCm_fits⟩, zeroHd_fits, getD_of zeroReg_fits ra, zeroCm_fits⟩
    · simp at h
  · have hs := (chgEv_at h).2.2.1
    unfold chgEv at h
    split at h
    · obtain rfl := List.mem_singleton.1 h
      obtain ⟨x, hx, hp⟩ := some_of hs.2.2.2.2
      have hxk : x.id = k := by simpa [evAt] using hp
      have hk : i64 k := by
        rcases hx with hx | hx
        · obtain ⟨y, hy, rfl⟩ := List.mem_map.1 hx
          exact hxk ▸ (ea y hy).1
        · obtain ⟨y, hy, rfl⟩ := List.mem_map.1 hx
          exact hxk ▸ (eb y hy).1
      exact ⟨⟨(show (0 : Int) ≤ 3 by decide), hk, (show (0 : Nat) ≤ 4000000 by decide), zeroHd_fits, zeroReg_fits, (Ev.fits_c _).2 (getD_of zeroEv_fits ea), (Ev.fits_c _).2 (getD_of zeroEv_fits eb), zeroCm_fits⟩, zeroHd_fits, zeroReg_fits, zeroCm_fits⟩
    · simp at h
  · have hs := (chgCm_at h).2.2.1
    unfold chgCm at h
    split at h
    · obtain rfl := List.mem_singleton.1 h
      obtain ⟨x, hx, hp⟩ := some_of hs.2.2.2.2
      have hxk : x.id = k := by simpa [cmAt] using hp
      have hk : i64 k := hxk ▸ (hx.elim (fun h => (ca x h).1) fun h => (cb x h).1)
      exact ⟨⟨(show (0 : Int) ≤ 4 by decide), hk, (show (0 : Nat) ≤ 4000000 by decide), zeroHd_fits, zeroReg_fits, zeroEvC_fits, zeroEvC_fits, getD_of zeroCm_fits cb⟩, zeroHd_fits, zeroReg_fits, getD_of zeroCm_fits ca⟩
    · simp at h
theorem chgs_small {a b : Doc} (ha : docErr a = 0) (hb : docErr b = 0) : (chgs a b).length ≤ 2000 := by
  obtain ⟨a1, a2, a3⟩ := doc_lens ha
  obtain ⟨b1, b2, b3⟩ := doc_lens hb
  unfold chgs chgsOf
  rw [List.length_append, List.length_append, List.length_append]
  have h1 := chgHead_le a.hd b.hd
  have h2 := flat_le (chgReg a.regs b.regs) (fun x => chgReg_le _ _ _) (regKeys a b)
  have h3 := flat_le (chgEv a.evs b.evs) (fun x => chgEv_le _ _ _) (evKeys a b)
  have h4 := flat_le (chgCm a.cms b.cms) (fun x => chgCm_le _ _ _) (cmKeys a b)
  have h5 := insNames_len (a.regs ++ b.regs) []
  rw [regKeys_ref, List.length_append, List.length_nil] at h5
  have h6 : (evKeys a b).length ≤ 800 := len_compact _ _ (by unfold sortI; rw [List.length_mergeSort, List.length_map, List.length_append]; omega)
  have h7 : (cmKeys a b).length ≤ 128 := len_compact _ _ (by unfold sortI; rw [List.length_mergeSort, List.length_map, List.length_append]; omega)
  omega
theorem patch_zero {d b : DocC} {l : List ChgC} (h0 : cErr d = 0) (h1 : cErr b = 0) (h : patchC d l = (0, b)) : patchErr d l = 0 ∧ patchDoc d l = b := by
  have e : patchErr d l = 0 := by
    unfold patchErr
    rw [if_pos h0, h]
    exact h1
  refine ⟨e, ?_⟩
  unfold patchDoc
  rw [if_pos e, h]
/-- Patch with the changes between two documents in order, and back. -/
theorem leads_forth {a b : Doc} (ha : docErr a = 0) (hb : docErr b = 0) : patchErr a.c (chgs a b) = 0 ∧ patchDoc a.c (chgs a b) = b.c :=
  patch_zero ((docErr_c a).symm.trans ha) ((docErr_c b).symm.trans hb) (chgs_forth (docOk ha) (docOk hb))
theorem leads_back {a b : Doc} (ha : docErr a = 0) (hb : docErr b = 0) : patchErr b.c (invL (chgs a b)) = 0 ∧ patchDoc b.c (invL (chgs a b)) = a.c :=
  patch_zero ((docErr_c b).symm.trans hb) ((docErr_c a).symm.trans ha) (chgs_back (docOk ha) (docOk hb))
end Go.Proofs.YtnlnmbcaongehaaGreatDoor
namespace Go.Proofs.YtnlnmbcaongehaaGreatDoor
variable {P : Program} {ops : Array Oper} {Q : Exit → Act → World → Prop} {l n : Nat}
theorem rowsIn_round {row : String} {args : Array Value} {w : World} {R : Value → World → Prop} (h : Rows P row args w R) : RowsIn (Fence.wide.inRound l) n P row args w R :=
  fun c cs _ => let ⟨v, w', r, s⟩ := h c cs; ⟨v, w', r, stepsIn_wide.2 s⟩
theorem opIn_of_wp {o : Oper} {a : Act} {w : World} {K : Act → World → Prop} (hd : ∀ c, o.op ≠ .defer c) (h : o.wp P a w K Q) : o.wpIn (Fence.wide.inRound l) n P a w K Q := by
  unfold Oper.wpIn
  refine ⟨fun _ _ => trivial, ?_⟩
  rw [show (Fence.wide.inRound l).round = some l from rfl, Oper.semAt_some l a.eval o hd]
  unfold Oper.wp at h
  generalize (execOp a.eval o).run P w = r at *
  cases r with
  | ok x w' =>
    cases x <;> first
      | exact h
      | exact h.elim
      | exact ⟨fun h => (by cases h), CallsIn.inRound l (callsIn_wide.2 (Calls.mono h (fun e w'' he => by cases e <;> exact he)))⟩
      | exact ⟨fun h => (by cases h), rowsIn_round h⟩
  | halt x w' => cases x <;> first | exact h | exact h.elim
theorem listIn_of_wp (hQ : ¬ LetsOut Q) : ∀ (os : List Oper) (a : Act) (w : World), (∀ o ∈ os, ∀ c, o.op ≠ .defer c) → wpList P ops Q os a w → wpListIn (Fence.wide.inRound l) n P ops Q os a w
  | [], a, w, _, h => h
  | o :: os, a, w, hd, h => by
    have ih := fun a w => listIn_of_wp hQ os a w (fun x hx => hd x (List.mem_cons_of_mem _ hx))
    unfold wpList at h
    unfold wpListIn
    split
    · rename_i hw
      rw [if_pos hw] at h
      rcases h with h | ⟨_, h⟩
      · exact opIn_of_wp (hd o List.mem_cons_self) (Oper.wp_mono ih h)
      · exact absurd h hQ
    · rename_i hw
      rw [if_neg hw] at h
      exact ⟨fun _ _ => trivial, ih _ _ h⟩
theorem anyIn_of_wp (hQ : ¬ LetsOut Q) {md : Region.Mode} (hd : ∀ o ∈ ops.toList, ∀ c, o.op ≠ .defer c) : ∀ (fuel : Nat) (listed : Array Bool) (a : Act) (w : World), wpAny P md ops Q fuel listed a w → wpAnyIn (Fence.wide.inRound l) n P md ops Q fuel listed a w
  | 0, listed, a, w, h => h
  | fuel + 1, listed, a, w, h => by
    refine ⟨h.1, fun i hi => ?_⟩
    have h2 := h.2 i hi
    have ih := anyIn_of_wp (md := md) hQ hd fuel (listed.setIfInBounds i true)
    unfold wpOp at h2
    unfold wpOpIn
    split
    · rename_i ho
      simp only [ho] at h2
      exact ih _ _ h2
    · rename_i o ho
      simp only [ho] at h2
      have hm : o ∈ ops.toList := by
        obtain ⟨h3, rfl⟩ := Array.getElem?_eq_some_iff.1 ho
        exact Array.getElem_mem_toList h3
      split
      · rename_i hw
        rw [if_pos hw] at h2
        rcases h2 with h2 | ⟨_, h2⟩
        · exact opIn_of_wp (hd o hm) (Oper.wp_mono ih h2)
        · exact absurd h2 hQ
      · rename_i hw
        rw [if_neg hw] at h2
        exact ⟨fun _ _ => trivial, ih _ _ h2⟩
/-- No operation of a list is a 'defer' statement. -/
def noDefer (os : List Oper) : Bool := os.all fun o => match o.op with | .defer _ => false | _ => true
theorem noDefer_spec {os : List Oper} (h : noDefer os = true) : ∀ o ∈ os, ∀ c, o.op ≠ .defer c := by
  intro o ho c e
  have := List.all_eq_true.1 h o ho
  simp only [e] at this
  cases this
theorem Exit.then_lets {K : Act → World → Prop} (hQ : ¬ LetsOut Q) : ¬ LetsOut (Exit.then K Q) := fun ⟨a, w, h⟩ => hQ ⟨a, w, h⟩
/-- A plain region in a round. -/
theorem roundRegion {id : Nat} {os : List Oper} {a : Act} {w : World} (hQ : ¬ LetsOut Q) (hd : noDefer os = true) (hl : wpList P os.toArray Q os a w) : (Code.region id os.toArray false).wpIn (Fence.wide.inRound l) n P Q a w :=
  wpIn_region_lit (listIn_of_wp hQ os a w (noDefer_spec hd) hl)
/-- A region that draws its order, in a round. -/
theorem roundDrawn {id : Nat} {a : Act} {w : World} {S : World → Prop} (hm : P.follows .mixedOrders = true) (hQ : ¬ LetsOut Q) (hd : noDefer ops.toList = true)
    (h : wpAnyH P .any ops Q S ops.size (Array.replicate ops.size false) a w.drew) : (Code.region id ops true).wpIn (Fence.wide.inRound l) n P Q a w :=
  wpIn_region_any hm (anyIn_of_wp hQ (noDefer_spec hd) _ _ _ _ (wpAny_of_held _ _ _ _ h))
/-- A struct is read out of the middle of a block, in a round or an iterator. -/
theorem wpListIn_load_mid {F : Fence} {rest : List Oper} {op : Oper} {a : Act} {w : World} (hgd : op.guard = none) (ty : TypeId) (x : Operand) (ho : op.op = .load ty x)
    (b o : Nat) (hx : a.eval x = .pointer (some ⟨b, o, none⟩)) (cs : List Value) (d : TypeDesc) (hc : w.rangeAt b o cs)
    (hu : P.underlying ty = some d) (hd : d.isRow = true) (hi : (P.info? ty).map (·.size) = some cs.length)
    (h : wpListIn F n P ops Q rest (a.put op.dst (.agg cs.toArray)) w) : wpListIn F n P ops Q (op :: rest) a w :=
  wpListIn_plain hgd fun _ hK => by
    unfold Oper.wpIn
    refine ⟨fun f hf => by simp [Oper.about, ho] at hf, ?_⟩
    rw [Oper.semAt_eq _ _ _ (fun c e => by rw [ho] at e; cases e)]
    unfold execOp
    simp only [ho, hx, Instr.loadAt, Instr.sureAddr, Sem.run_bind, Sem.run_pure, Result.andThen_ok, run_loadVar_mid w b o ty cs d hc hu hd hi]
    exact hK _ _ h
end Go.Proofs.YtnlnmbcaongehaaGreatDoor
namespace Go.Proofs.YtnlnmbcaongehaaGreatDoor
open Go.RowKit Go.Shelf
attribute [local go_sem] Oper.semAt_some
/-- What comes: an index and a change of the list. -/
abbrev BackEl (xs : List Chg) := { p : Int × Chg // p.2 ∈ xs }
def BackEl.encs {xs : List Chg} (x : BackEl xs) : Array Value := #[.int .i64 x.1.1, .agg x.1.2.enc.toArray]
theorem rev_take (xs : List Chg) (j : Nat) (x : Chg) (h : xs[j]? = some x) : xs.reverse.take (xs.length - j) = xs.reverse.take (xs.length - (j + 1)) ++ [x] := by
  have hj : j < xs.length := (List.getElem?_eq_some_iff.1 h).1
  rw [show xs.length - j = xs.length - (j + 1) + 1 by omega, List.take_add_one, List.getElem?_reverse (by omega), show xs.length - 1 - (xs.length - (j + 1)) = j by omega, h]
  rfl
set_option maxRecDepth 100000 in
set_option maxHeartbeats 3200000 in
theorem back1_in (F : Fence) (n : Nat) (h7 : F.fn 118) (hro : F.round = none) (hn : 1 ≤ n) (l Bs cap : Nat) (a : Option Addr) (xs : List Chg) (w : World) (hx : SliceOf 59 Chg.enc Chg.lies w a xs) (hl : xs.length ≤ 40000000) (Kp : World → World → Prop) (hKB : ∀ A B, Kp A B → Below w.heap.size A B) (hKt : ∀ A B C, Kp A B → Kp B C → Kp A C) (hKr : ∀ A, Kp A A) (J Jx : List (BackEl xs) → World → Prop)
    (hY : ∀ pre x W, J pre W → pre.length < xs.length → YieldAt F (n - 1) Tryz.prog l (BackEl.encs x) W fun e W' =>
      (e = .returned (.bool true) ∧ J (pre ++ [x]) W' ∧ Kp W W') ∨ (e = .returned (.bool false) ∧ Jx (pre ++ [x]) W'))
    (W : World) (hW : Below w.heap.size w W) (hBs : ∀ W', Kp W W' → W'.cell? ⟨Bs, 0, none⟩ = some (.slice a xs.length cap)) (h0 : J [] W) :
    CallsIn F n Tryz.prog 118 #[.func (.yield l) #[] #[], .pointer (some ⟨Bs, 0, none⟩)] W fun e W' => (∃ v, e = .returned v) ∧
      ((∃ ys : List (BackEl xs), ys.map (fun p => p.1.2) = xs.reverse ∧ J ys W') ∨ (∃ pre : List (BackEl xs), True ∧ Jx pre W')) := by
  have hB0 := hBs W (hKr _)
  have HX := Lib.hid (fun (w1 : World) (h : Kp W w1) => SliceOf.keeps Chg.keeps _ _ _ _ (hW.trans (hKB _ _ h)) hx)
  have HBS := Lib.hid hBs
  have HY := Lib.hid hY
  have H0 := Lib.hid h0
  have HKT := Lib.hid hKt
  have HKR := Lib.hid (hKr W)
  clear hY hx h0 hBs hKB hKt hKr
  refine callsIn_of_wp Tryz.func118 rfl h7 ?_ hro
  simp only [Tryz.ntmps118, List.size_toArray, List.length_cons, List.length_nil, Nat.reduceAdd, Nat.reduceSub, Array.replicate_succ, Array.replicate_zero, List.push_toArray, List.append_toArray, List.nil_append, List.cons_append]
  gi_wp2
  gi_loopw [3] (fun i wr => ∃ (m : Nat) (pre : List (BackEl xs)), m ≤ xs.length ∧ i = .int .i64 ((m : Int) - 1) ∧ pre.map (fun p => p.1.2) = xs.reverse.take (xs.length - m) ∧ J pre wr ∧ Kp W wr)
    (fun i _ => (intOf i + 1).toNat)
  case atStart => exact ⟨xs.length, [], Nat.le_refl _, by go_num, by simp, H0.out, HKR.out⟩
  case round =>
    obtain ⟨m, pre, hm, rfl, hpre, hJ, hb⟩ := hrel
    have hbs := HBS.out wr hb
    cases m with
    | zero =>
      have HE := Lib.hid (show ∃ ys : List (BackEl xs), ys.map (fun p => p.1.2) = xs.reverse ∧ J ys wr from ⟨pre, by rw [hpre, Nat.sub_zero, ← List.length_reverse, List.take_length], hJ⟩)
      clear hpre hJ
      gi_wp2
      go_end0
      exact ⟨⟨_, rfl⟩, .inl HE.out⟩
    | succ j =>
      rw [show (((j + 1 : Nat) : Int) - 1) = (j : Int) by omega]
      obtain ⟨b, off, x, rfl, hbl, hxj, hc, hxl⟩ := (HX.out wr hb).at_ (show j < xs.length by omega)
      have hlen : pre.length < xs.length := by
        have := congrArg List.length hpre
        simp only [List.length_map, List.length_take, List.length_reverse] at this
        omega
      obtain ⟨fn, tmps, assign, body, hy, hR⟩ := HY.out pre ⟨((j : Int), x), List.mem_of_getElem? hxj⟩ wr hJ hlen
      have hsz : (Tryz.prog.info? 54).map (·.size) = some x.enc.length := by rw [show (Tryz.prog.info? 54).map (·.size) = some 59 from by kernel_rfl, Chg.len]
      have HSZ := Lib.hid hsz
      have HRG := Lib.hid (show wr.rangeAt b (off + j * 59) x.enc from fun q v e => hc q v e)
      have HREL := Lib.hid (show (pre ++ [(⟨((j : Int), x), List.mem_of_getElem? hxj⟩ : BackEl xs)]).map (fun p => p.1.2) = xs.reverse.take (xs.length - j) from by
        rw [List.map_append, hpre, rev_take xs j x hxj]; rfl)
      have HBT := Lib.hid (fun (w5 : World) (h : Kp wr w5) => HKT.out _ _ _ hb h)
      simp only [BackEl.encs] at hy
      generalize x.enc = xe at *
      have hj0 : ((j : Int) ≥ 0) = True := by simp
      clear hsz hc hpre hJ
      gi_wp2_with (refine wpListIn_load_mid rfl 54 (.tmp 15) rfl b (off + j * 59) rfl xe _ HRG.out Tryz.underlying54 rfl HSZ.out ?_)
      refine hR.mono ?_
      rintro e W3 (⟨rfl, hJ3, hk3⟩ | ⟨rfl, hJx3⟩)
      · gi_wp2
        go_roundw
        case rel => exact ⟨j, _, by omega, by go_num, HREL.out, hJ3, HBT.out _ hk3⟩
        case measure => first | (simp [intOf]; done) | (simp [intOf]; omega)
      · gi_wp2
        refine bodyPost_ret (results_none rfl _ _ _) rfl ?_
        exact ⟨⟨_, rfl⟩, .inr ⟨_, trivial, hJx3⟩⟩
set_option maxRecDepth 100000 in
set_option maxHeartbeats 1000000 in
/-- slices.Backward: the slice is boxed; the function value captures the box. -/
theorem back_in (F : Fence) (n : Nat) (h5 : F.fn 58) (hro : F.round = none) (a : Option Addr) (len cap : Nat) (w : World) :
    CallsIn F n Tryz.prog 58 #[.slice a len cap] w fun e w' => e = .returned (.func (.func 118) #[] #[.pointer (some ⟨w.heap.size, 0, none⟩)]) ∧ w' = w.alloc (.cells #[.slice a len cap] 29) := by
  refine callsIn_of_wp Tryz.func58 rfl h5 ?_ hro
  simp only [Tryz.ntmps58, List.size_toArray, List.length_cons, List.length_nil, Nat.reduceAdd, Nat.reduceSub, Array.replicate_succ, Array.replicate_zero, List.push_toArray, List.append_toArray, List.nil_append, List.cons_append]
  gi_wp2
  go_ret
  exact ⟨rfl, rfl⟩
/-- What a round must keep: what lay, and the box of the slice. -/
def BackKp (n₀ Bs : Nat) (A B : World) : Prop := Below n₀ A B ∧ ∀ v, Boxed A Bs 29 v → Boxed B Bs 29 v
theorem BackKp.t {n₀ Bs : Nat} {A B C : World} (h : BackKp n₀ Bs A B) (k : BackKp n₀ Bs B C) : BackKp n₀ Bs A C := ⟨h.1.trans k.1, fun v hv => k.2 v (h.2 v hv)⟩
theorem BackKp.r (n₀ Bs : Nat) (A : World) : BackKp n₀ Bs A A := ⟨Below.refl _ _, fun _ h => h⟩
theorem BackKp.b {n₀ Bs : Nat} {w : World} (hn : n₀ ≤ w.heap.size) (hB : Bs < w.heap.size) (W : World) (l : Nat) (o o' : Obj) (hl : w.heap.size ≤ l) (h : W.heap[l]? = some o) (hc : o.isCells = false) (hw : o.isWalk = false) : BackKp n₀ Bs W (W.putObj l o') :=
  ⟨belowK_b hn W l o o' hl h hc hw, fun v hv => (World.putObj_heap_other (by omega)).trans hv⟩
/-- The function value that slices.Backward hands back: every element, from the last one to the first one. -/
theorem back_stops (F : Fence) (n : Nat) (h7 : F.fn 118) (hro : F.round = none) (hn : 1 ≤ n) (Bs cap : Nat) (a : Option Addr) (xs : List Chg) (w w1 : World) (hx : SliceOf 59 Chg.enc Chg.lies w a xs) (hl : xs.length ≤ 40000000) (hw : Below w.heap.size w w1) (hB : Boxed w1 Bs 29 (.slice a xs.length cap)) :
    SeqStopsK F n Tryz.prog 118 #[.pointer (some ⟨Bs, 0, none⟩)] (BackEl.encs (xs := xs)) (BackKp w.heap.size Bs) (fun ys => ys.map (fun p => p.1.2) = xs.reverse) (fun _ => True) xs.length w1 := fun l J Jx W hW _ _ hY h0 =>
  back1_in F n h7 hro hn l Bs cap a xs w hx hl (BackKp w.heap.size Bs) (fun _ _ h => h.1) (fun _ _ _ h k => h.t k) (BackKp.r _ _) J Jx hY W (hw.trans (hW.mono hw.size)) (fun W' h => (h.2 _ ((hW.block Bs hB.lt).trans hB)).cell) h0
end Go.Proofs.YtnlnmbcaongehaaGreatDoor
namespace Go.Proofs.YtnlnmbcaongehaaGreatDoor
open Go.RowKit
/-- A row stored into the middle of a block. -/
theorem wpList_store_seg {P : Program} {ops : Array Oper} {rest : List Oper} {op : Oper} {a : Act} {w : World} {Q : Exit → Act → World → Prop} (hgd : op.guard = none) (ty : TypeId) (x y : Operand) (ho : op.op = .store ty x y)
    (g o : Nat) (Y : List Value) (hx : a.eval x = .pointer (some ⟨g, o, none⟩)) (hy : a.eval y = .agg Y.toArray) (A X S : List Value) (t : TypeId) (hg : w.heap[g]? = some (.cells (A ++ (X ++ S)).toArray t (0, 0)))
    (hA : A.length = o) (hl : Y.length = X.length) (hi : (P.info? ty).map (·.size) = some Y.length) (h1 : ∀ v ∈ Y, v.oneCell' = true)
    (h : wpList P ops Q rest (a.put op.dst undef) (w.setRow g (A ++ (Y ++ S)).toArray)) : wpList P ops Q (op :: rest) a w := by
  refine wpList_plain hgd fun _ hK => ?_
  unfold Oper.wp execOp
  have hs := run_storeCells_at P g o t Y 0 (A ++ (X ++ S)).toArray w hg (by simp; omega) h1
  have e : ((A ++ (X ++ S)).take (o + 0) ++ Y ++ (A ++ (X ++ S)).drop (o + 0 + Y.length)) = A ++ (Y ++ S) := by
    rw [Nat.add_zero, ← hA, List.take_left', List.drop_append, List.drop_eq_nil_of_le (by omega), List.nil_append, show A.length + Y.length - A.length = X.length by omega, List.drop_left', List.append_assoc]
    · rfl
    · rfl
  simp only [] at hs
  rw [e] at hs
  cases hq : P.info? ty with
  | none => simp [hq] at hi
  | some i =>
    have hz : Y.length = i.size := by simp [hq] at hi; omega
    have hst : (storeVar ty ⟨g, o, none⟩ (.agg Y.toArray)).run P w = .ok () (w.setRow g (A ++ (Y ++ S)).toArray) := by
      simp [storeVar, sizeOf, typeInfo, hq, Value.cells, hz, hs]
    simp only [ho, hx, hy, Instr.storeAt, Instr.sureAddr, Sem.run_bind, Sem.run_pure, Result.andThen_ok, hst]
    exact hK _ _ h
theorem wp_store_seg {P : Program} {op : Oper} {a : Act} {w : World} {K : Act → World → Prop} {Q : Exit → Act → World → Prop} (ty : TypeId) (x y : Operand) (ho : op.op = .store ty x y)
    (g o : Nat) (Y : List Value) (hx : a.eval x = .pointer (some ⟨g, o, none⟩)) (hy : a.eval y = .agg Y.toArray) (A X S : List Value) (t : TypeId) (hg : w.heap[g]? = some (.cells (A ++ (X ++ S)).toArray t (0, 0)))
    (hA : A.length = o) (hl : Y.length = X.length) (hi : (P.info? ty).map (·.size) = some Y.length) (h1 : ∀ v ∈ Y, v.oneCell' = true)
    (h : K (a.put op.dst undef) (w.setRow g (A ++ (Y ++ S)).toArray)) : op.wp P a w K Q := by
  unfold Oper.wp execOp
  have hs := run_storeCells_at P g o t Y 0 (A ++ (X ++ S)).toArray w hg (by simp; omega) h1
  have e : ((A ++ (X ++ S)).take (o + 0) ++ Y ++ (A ++ (X ++ S)).drop (o + 0 + Y.length)) = A ++ (Y ++ S) := by
    rw [Nat.add_zero, ← hA, List.take_left', List.drop_append, List.drop_eq_nil_of_le (by omega), List.nil_append, show A.length + Y.length - A.length = X.length by omega, List.drop_left', List.append_assoc]
    · rfl
    · rfl
  simp only [] at hs
  rw [e] at hs
  cases hq : P.info? ty with
  | none => simp [hq] at hi
  | some i =>
    have hz : Y.length = i.size := by simp [hq] at hi; omega
    have hst : (storeVar ty ⟨g, o, none⟩ (.agg Y.toArray)).run P w = .ok () (w.setRow g (A ++ (Y ++ S)).toArray) := by
      simp [storeVar, sizeOf, typeInfo, hq, Value.cells, hz, hs]
    simp only [ho, hx, hy, Instr.storeAt, Instr.sureAddr, Sem.run_bind, Sem.run_pure, Result.andThen_ok, hst]
    exact h
theorem range_seg {w : World} {g o : Nat} {A X S : List Value} {t : TypeId} (hg : w.heap[g]? = some (.cells (A ++ (X ++ S)).toArray t (0, 0))) (hA : A.length = o) : w.rangeAt g o X := fun j v hv => by
  have hj : j < X.length := (List.getElem?_eq_some_iff.1 hv).1
  rw [cell_of_row _ _ (o + j) _ t (0, 0) hg, List.getElem?_toArray, List.getElem?_append_right (by omega), show o + j - A.length = j by omega, List.getElem?_append_left hj]
  exact hv
theorem aside_row (w : World) (g : Nat) (cs : Array Value) : Aside w g (w.setRow g cs) := fun b _ h => by
  unfold World.setRow
  show (w.heap.modify g _)[b]? = w.heap[b]?
  rw [Array.getElem?_modify, if_neg (fun e => h e.symm)]
theorem size_row (w : World) (g : Nat) (cs : Array Value) : (w.setRow g cs).heap.size = w.heap.size := by unfold World.setRow; simp
theorem Aside.trans {w w1 w2 : World} {g : Nat} (h : Aside w g w1) (hs : w.heap.size ≤ w1.heap.size) (h2 : Aside w1 g w2) : Aside w g w2 := fun b hb hn => (h2 b (by omega) hn).trans (h b hb hn)
theorem grown_row (w : World) (g : Nat) (cs : Array Value) : w.grownBy (w.setRow g cs) (some g) := ⟨rfl, rfl, rfl, by rw [size_row]; exact Nat.le_refl _, fun k hk hn => aside_row w g cs k hk (fun e => hn (by rw [e]))⟩
theorem grown_trans {a b c : World} {r : Option Nat} (h : a.grownBy b r) (k : b.grownBy c r) : a.grownBy c r := ⟨k.os.trans h.os, k.tape.trans h.tape, k.output.trans h.output, Nat.le_trans h.size k.size, fun i hi hn => (k.block i (Nat.lt_of_lt_of_le hi h.size) hn).trans (h.block i hi hn)⟩
theorem grown_below {a b : World} {r : Option Nat} (h : Below a.heap.size a b) : a.grownBy b r := ⟨h.os, h.tape, h.output, h.size, fun k hk _ => h.block k hk⟩
theorem Aside.of {w w' : World} {g : Nat} (h : w.grownBy w' (some g)) : Aside w g w' := fun b hb hn => h.block b hb (fun e => hn (Option.some.inj e))
/-- The operations of a region of a function. -/
def opsAt (n : Nat) : Code → Option (Array Oper)
  | .region id ops _ => if id = n then some ops else none
  | .seq a b => (opsAt n a).orElse fun _ => opsAt n b
  | .block _ c => opsAt n c
  | .loop c => opsAt n c
  | .cond _ a b => (opsAt n a).orElse fun _ => opsAt n b
  | .rangeFunc _ _ a b => (opsAt n a).orElse fun _ => opsAt n b
  | _ => none
def fnOps (f : Func) (n : Nat) : Array Oper := (opsAt n (f.body.getD .skip)).getD #[]
set_option maxRecDepth 100000 in
set_option maxHeartbeats 3200000 in
theorem flags_p {Q : Exit → Act → World → Prop} (g : Nat) (c0 c1 c2 : Value) (ad gn : Bool) (R : List Value) (w : World) (hg : w.heap[g]? = some (.cells (c0 :: c1 :: c2 :: .bool ad :: .bool gn :: R).toArray 54 (0, 0))) (ds : List Deferred) (s0 s1 s2 s3 s4 s6 s7 s8 s9 s10 s11 s12 s13 s14 s15 s16 s17 s18 s19 s20 s21 s22 s23 s24 s25 s26 s27 s28 s29 s30 s31 s32 s33 s34 s35 s36 s37 s38 s39 s40 s41 s42 s43 s44 s45 s46 : Value)
    (h : ∀ (w' : World) (y0 y1 y2 y3 y4 y5 : Value), w'.heap[g]? = some (.cells (c0 :: c1 :: c2 :: .bool gn :: .bool ad :: R).toArray 54 (0, 0)) → w.grownBy w' (some g) → w'.heap.size = w.heap.size → Q .normal { tmps := #[s0, s1, s2, s3, s4, .pointer (some ⟨g, 0, none⟩), s6, s7, s8, s9, y0, y1, y2, y3, y4, y5, s16, s17, s18, s19, s20, s21, s22, s23, s24, s25, s26, s27, s28, s29, s30, s31, s32, s33, s34, s35, s36, s37, s38, s39, s40, s41, s42, s43, s44, s45, s46], defers := ds } w') :
    wpList Tryz.prog (fnOps Tryz.f17 4) Q (fnOps Tryz.f17 4).toList { tmps := #[s0, s1, s2, s3, s4, .pointer (some ⟨g, 0, none⟩), s6, s7, s8, s9, s10, s11, s12, s13, s14, s15, s16, s17, s18, s19, s20, s21, s22, s23, s24, s25, s26, s27, s28, s29, s30, s31, s32, s33, s34, s35, s36, s37, s38, s39, s40, s41, s42, s43, s44, s45, s46], defers := ds } w := by
  have c3 : w.cell? ⟨g, 3, none⟩ = some (.bool ad) := by rw [cell_of_row _ _ 3 _ 54 (0, 0) hg]; rfl
  have c4 : w.cell? ⟨g, 4, none⟩ = some (.bool gn) := by rw [cell_of_row _ _ 4 _ 54 (0, 0) hg]; rfl
  have z : ∀ j, w.frozen? ⟨g, j, none⟩ = false := fun j => frozen_of_row _ _ j _ 54 hg
  have e1 : w.setCell ⟨g, 3, none⟩ (.bool gn) = w.setRow g (c0 :: c1 :: c2 :: .bool gn :: .bool gn :: R).toArray := by rw [setCell_eq_setRow w g 3 _ 54 (0, 0) _ hg]; simp
  have hg2 := setRow_heap w g _ (c0 :: c1 :: c2 :: .bool gn :: .bool gn :: R).toArray _ _ hg
  have e2 : (w.setRow g (c0 :: c1 :: c2 :: .bool gn :: .bool gn :: R).toArray).setCell ⟨g, 4, none⟩ (.bool ad) = (w.setRow g (c0 :: c1 :: c2 :: .bool gn :: .bool gn :: R).toArray).setRow g (c0 :: c1 :: c2 :: .bool gn :: .bool ad :: R).toArray := by rw [setCell_eq_setRow _ g 4 _ 54 (0, 0) _ hg2]; simp
  have HE := Lib.hid (fun y0 y1 y2 y3 y4 y5 => (show Q .normal { tmps := #[s0, s1, s2, s3, s4, .pointer (some ⟨g, 0, none⟩), s6, s7, s8, s9, y0, y1, y2, y3, y4, y5, s16, s17, s18, s19, s20, s21, s22, s23, s24, s25, s26, s27, s28, s29, s30, s31, s32, s33, s34, s35, s36, s37, s38, s39, s40, s41, s42, s43, s44, s45, s46], defers := ds } ((w.setCell ⟨g, 3, none⟩ (.bool gn)).setCell ⟨g, 4, none⟩ (.bool ad)) from by
    rw [e1, e2]
    exact h _ y0 y1 y2 y3 y4 y5 (setRow_heap _ _ _ _ _ _ hg2) (grown_trans (grown_row _ _ _) (grown_row _ _ _)) (by rw [size_row, size_row])))
  clear h hg hg2 e1 e2
  generalize hO : fnOps Tryz.f17 4 = os
  have hO' : (fnOps Tryz.f17 4).toList = os.toList := by rw [hO]
  conv at hO' => lhs; whnf
  rw [← hO']
  clear hO'
  go_wp2_with fail
  exact HE.out _ _ _ _ _ _
set_option maxRecDepth 100000 in
set_option maxHeartbeats 3200000 in
theorem swapHd_p {Q : Exit → Act → World → Prop} (g : Nat) (A X Y S : List Value) (w : World) (hg : w.heap[g]? = some (.cells (A ++ (X ++ (Y ++ S))).toArray 54 (0, 0))) (hA : A.length = 5) (hX : X.length = 5) (hY : Y.length = 5) (h1 : ∀ v ∈ X, v.oneCell' = true) (h2 : ∀ v ∈ Y, v.oneCell' = true) (ds : List Deferred) (s0 s1 s2 s3 s4 s6 s7 s8 s9 s10 s11 s12 s13 s14 s15 s16 s17 s18 s19 s20 s21 s22 s23 s24 s25 s26 s27 s28 s29 s30 s31 s32 s33 s34 s35 s36 s37 s38 s39 s40 s41 s42 s43 s44 s45 s46 : Value)
    (h : ∀ (w' : World) (y0 y1 y2 y3 y4 y5 : Value), w'.heap[g]? = some (.cells (A ++ (Y ++ (X ++ S))).toArray 54 (0, 0)) → w.grownBy w' (some g) → w'.heap.size = w.heap.size → Q .normal { tmps := #[s0, s1, s2, s3, s4, .pointer (some ⟨g, 0, none⟩), s6, s7, s8, s9, s10, s11, s12, s13, s14, s15, y0, y1, y2, y3, y4, y5, s22, s23, s24, s25, s26, s27, s28, s29, s30, s31, s32, s33, s34, s35, s36, s37, s38, s39, s40, s41, s42, s43, s44, s45, s46], defers := ds } w') :
    wpList Tryz.prog (fnOps Tryz.f17 5) Q (fnOps Tryz.f17 5).toList { tmps := #[s0, s1, s2, s3, s4, .pointer (some ⟨g, 0, none⟩), s6, s7, s8, s9, s10, s11, s12, s13, s14, s15, s16, s17, s18, s19, s20, s21, s22, s23, s24, s25, s26, s27, s28, s29, s30, s31, s32, s33, s34, s35, s36, s37, s38, s39, s40, s41, s42, s43, s44, s45, s46], defers := ds } w := by
  have HX := Lib.hid (range_seg hg hA)
  have HY := Lib.hid (range_seg (A := A ++ X) (X := Y) (S := S) (o := 10) (by rw [List.append_assoc]; exact hg) (by rw [List.length_append]; omega))
  have HSX := Lib.hid (show (Tryz.prog.info? 41).map (·.size) = some X.length by rw [hX]; kernel_rfl)
  have HSY := Lib.hid (show (Tryz.prog.info? 41).map (·.size) = some Y.length by rw [hY]; kernel_rfl)
  have HL1 := Lib.hid (show Y.length = X.length by omega)
  have HL2 := Lib.hid (show X.length = Y.length by omega)
  have HA := Lib.hid hA
  have HA2 := Lib.hid (show (A ++ Y).length = 10 by rw [List.length_append]; omega)
  have HG := Lib.hid hg
  have HG2 := Lib.hid (show (w.setRow g (A ++ (Y ++ (Y ++ S))).toArray).heap[g]? = some (.cells ((A ++ Y) ++ (Y ++ S)).toArray 54 (0, 0)) by rw [List.append_assoc]; exact setRow_heap _ _ _ _ _ _ hg)
  have H1 := Lib.hid h1; have H2 := Lib.hid h2
  have HE := Lib.hid (fun y0 y1 y2 y3 y4 y5 => h ((w.setRow g (A ++ (Y ++ (Y ++ S))).toArray).setRow g (A ++ (Y ++ (X ++ S))).toArray) y0 y1 y2 y3 y4 y5 (setRow_heap _ _ _ _ _ _ (setRow_heap _ _ _ _ _ _ hg)) (grown_trans (grown_row _ _ _) (grown_row _ _ _)) (by rw [size_row, size_row]))
  clear h hg hA hX hY h1 h2
  generalize hO : fnOps Tryz.f17 5 = os
  have hO' : (fnOps Tryz.f17 5).toList = os.toList := by rw [hO]
  conv at hO' => lhs; whnf
  rw [← hO']
  clear hO'
  go_wp2_with (first
    | (refine wpList_load_mid rfl 41 (.tmp 16) rfl g 10 rfl Y _ HY.out Tryz.underlying41 rfl HSY.out ?_)
    | (refine wpList_load_mid rfl 41 (.tmp 18) rfl g 5 rfl X _ HX.out Tryz.underlying41 rfl HSX.out ?_)
    | (refine wpList_store_seg rfl 41 (.tmp 20) (.tmp 17) rfl g 5 Y rfl rfl A X (Y ++ S) 54 HG.out HA.out HL1.out HSY.out H2.out ?_)
    | (refine wpList_store_seg rfl 41 (.tmp 21) (.tmp 19) rfl g 10 X rfl rfl (A ++ Y) Y S 54 HG2.out HA2.out HL2.out HSX.out H1.out ?_))
  exact HE.out _ _ _ _ _ _
set_option maxRecDepth 100000 in
set_option maxHeartbeats 3200000 in
theorem swapReg_p {Q : Exit → Act → World → Prop} (g : Nat) (A X Y S : List Value) (w : World) (hg : w.heap[g]? = some (.cells (A ++ (X ++ (Y ++ S))).toArray 54 (0, 0))) (hA : A.length = 15) (hX : X.length = 7) (hY : Y.length = 7) (h1 : ∀ v ∈ X, v.oneCell' = true) (h2 : ∀ v ∈ Y, v.oneCell' = true) (ds : List Deferred) (s0 s1 s2 s3 s4 s6 s7 s8 s9 s10 s11 s12 s13 s14 s15 s16 s17 s18 s19 s20 s21 s22 s23 s24 s25 s26 s27 s28 s29 s30 s31 s32 s33 s34 s35 s36 s37 s38 s39 s40 s41 s42 s43 s44 s45 s46 : Value)
    (h : ∀ (w' : World) (y0 y1 y2 y3 y4 y5 : Value), w'.heap[g]? = some (.cells (A ++ (Y ++ (X ++ S))).toArray 54 (0, 0)) → w.grownBy w' (some g) → w'.heap.size = w.heap.size → Q .normal { tmps := #[s0, s1, s2, s3, s4, .pointer (some ⟨g, 0, none⟩), s6, s7, s8, s9, s10, s11, s12, s13, s14, s15, s16, s17, s18, s19, s20, s21, y0, y1, y2, y3, y4, y5, s28, s29, s30, s31, s32, s33, s34, s35, s36, s37, s38, s39, s40, s41, s42, s43, s44, s45, s46], defers := ds } w') :
    wpList Tryz.prog (fnOps Tryz.f17 6) Q (fnOps Tryz.f17 6).toList { tmps := #[s0, s1, s2, s3, s4, .pointer (some ⟨g, 0, none⟩), s6, s7, s8, s9, s10, s11, s12, s13, s14, s15, s16, s17, s18, s19, s20, s21, s22, s23, s24, s25, s26, s27, s28, s29, s30, s31, s32, s33, s34, s35, s36, s37, s38, s39, s40, s41, s42, s43, s44, s45, s46], defers := ds } w := by
  have HX := Lib.hid (range_seg hg hA)
  have HY := Lib.hid (range_seg (A := A ++ X) (X := Y) (S := S) (o := 22) (by rw [List.append_assoc]; exact hg) (by rw [List.length_append]; omega))
  have HSX := Lib.hid (show (Tryz.prog.info? 44).map (·.size) = some X.length by rw [hX]; kernel_rfl)
  have HSY := Lib.hid (show (Tryz.prog.info? 44).map (·.size) = some Y.length by rw [hY]; kernel_rfl)
  have HL1 := Lib.hid (show Y.length = X.length by omega)
  have HL2 := Lib.hid (show X.length = Y.length by omega)
  have HA := Lib.hid hA
  have HA2 := Lib.hid (show (A ++ Y).length = 22 by rw [List.length_append]; omega)
  have HG := Lib.hid hg
  have HG2 := Lib.hid (show (w.setRow g (A ++ (Y ++ (Y ++ S))).toArray).heap[g]? = some (.cells ((A ++ Y) ++ (Y ++ S)).toArray 54 (0, 0)) by rw [List.append_assoc]; exact setRow_heap _ _ _ _ _ _ hg)
  have H1 := Lib.hid h1; have H2 := Lib.hid h2
  have HE := Lib.hid (fun y0 y1 y2 y3 y4 y5 => h ((w.setRow g (A ++ (Y ++ (Y ++ S))).toArray).setRow g (A ++ (Y ++ (X ++ S))).toArray) y0 y1 y2 y3 y4 y5 (setRow_heap _ _ _ _ _ _ (setRow_heap _ _ _ _ _ _ hg)) (grown_trans (grown_row _ _ _) (grown_row _ _ _)) (by rw [size_row, size_row]))
  clear h hg hA hX hY h1 h2
  generalize hO : fnOps Tryz.f17 6 = os
  have hO' : (fnOps Tryz.f17 6).toList = os.toList := by rw [hO]
  conv at hO' => lhs; whnf
  rw [← hO']
  clear hO'
  go_wp2_with (first
    | (refine wpList_load_mid rfl 44 (.tmp 22) rfl g 22 rfl Y _ HY.out Tryz.underlying44 rfl HSY.out ?_)
    | (refine wpList_load_mid rfl 44 (.tmp 24) rfl g 15 rfl X _ HX.out Tryz.underlying44 rfl HSX.out ?_)
    | (refine wpList_store_seg rfl 44 (.tmp 26) (.tmp 23) rfl g 15 Y rfl rfl A X (Y ++ S) 54 HG.out HA.out HL1.out HSY.out H2.out ?_)
    | (refine wpList_store_seg rfl 44 (.tmp 27) (.tmp 25) rfl g 22 X rfl rfl (A ++ Y) Y S 54 HG2.out HA2.out HL2.out HSX.out H1.out ?_))
  exact HE.out _ _ _ _ _ _
set_option maxRecDepth 100000 in
set_option maxHeartbeats 3200000 in
theorem swapCm_p {Q : Exit → Act → World → Prop} (g : Nat) (A X Y S : List Value) (w : World) (hg : w.heap[g]? = some (.cells (A ++ (X ++ (Y ++ S))).toArray 54 (0, 0))) (hA : A.length = 43) (hX : X.length = 8) (hY : Y.length = 8) (h1 : ∀ v ∈ X, v.oneCell' = true) (h2 : ∀ v ∈ Y, v.oneCell' = true) (ds : List Deferred) (s0 s1 s2 s3 s4 s6 s7 s8 s9 s10 s11 s12 s13 s14 s15 s16 s17 s18 s19 s20 s21 s22 s23 s24 s25 s26 s27 s28 s29 s30 s31 s32 s33 s34 s35 s36 s37 s38 s39 s40 s41 s42 s43 s44 s45 s46 : Value)
    (h : ∀ (w' : World) (y0 y1 y2 y3 y4 y5 : Value), w'.heap[g]? = some (.cells (A ++ (Y ++ (X ++ S))).toArray 54 (0, 0)) → w.grownBy w' (some g) → w'.heap.size = w.heap.size → Q .normal { tmps := #[s0, s1, s2, s3, s4, .pointer (some ⟨g, 0, none⟩), s6, s7, s8, s9, s10, s11, s12, s13, s14, s15, s16, s17, s18, s19, s20, s21, s22, s23, s24, s25, s26, s27, s28, s29, s30, s31, s32, s33, s34, s35, y0, y1, y2, y3, y4, y5, s42, s43, s44, s45, s46], defers := ds } w') :
    wpList Tryz.prog (fnOps Tryz.f17 8) Q (fnOps Tryz.f17 8).toList { tmps := #[s0, s1, s2, s3, s4, .pointer (some ⟨g, 0, none⟩), s6, s7, s8, s9, s10, s11, s12, s13, s14, s15, s16, s17, s18, s19, s20, s21, s22, s23, s24, s25, s26, s27, s28, s29, s30, s31, s32, s33, s34, s35, s36, s37, s38, s39, s40, s41, s42, s43, s44, s45, s46], defers := ds } w := by
  have HX := Lib.hid (range_seg hg hA)
  have HY := Lib.hid (range_seg (A := A ++ X) (X := Y) (S := S) (o := 51) (by rw [List.append_assoc]; exact hg) (by rw [List.length_append]; omega))
  have HSX := Lib.hid (show (Tryz.prog.info? 52).map (·.size) = some X.length by rw [hX]; kernel_rfl)
  have HSY := Lib.hid (show (Tryz.prog.info? 52).map (·.size) = some Y.length by rw [hY]; kernel_rfl)
  have HL1 := Lib.hid (show Y.length = X.length by omega)
  have HL2 := Lib.hid (show X.length = Y.length by omega)
  have HA := Lib.hid hA
  have HA2 := Lib.hid (show (A ++ Y).length = 51 by rw [List.length_append]; omega)
  have HG := Lib.hid hg
  have HG2 := Lib.hid (show (w.setRow g (A ++ (Y ++ (Y ++ S))).toArray).heap[g]? = some (.cells ((A ++ Y) ++ (Y ++ S)).toArray 54 (0, 0)) by rw [List.append_assoc]; exact setRow_heap _ _ _ _ _ _ hg)
  have H1 := Lib.hid h1; have H2 := Lib.hid h2
  have HE := Lib.hid (fun y0 y1 y2 y3 y4 y5 => h ((w.setRow g (A ++ (Y ++ (Y ++ S))).toArray).setRow g (A ++ (Y ++ (X ++ S))).toArray) y0 y1 y2 y3 y4 y5 (setRow_heap _ _ _ _ _ _ (setRow_heap _ _ _ _ _ _ hg)) (grown_trans (grown_row _ _ _) (grown_row _ _ _)) (by rw [size_row, size_row]))
  clear h hg hA hX hY h1 h2
  generalize hO : fnOps Tryz.f17 8 = os
  have hO' : (fnOps Tryz.f17 8).toList = os.toList := by rw [hO]
  conv at hO' => lhs; whnf
  rw [← hO']
  clear hO'
  go_wp2_with (first
    | (refine wpList_load_mid rfl 52 (.tmp 36) rfl g 51 rfl Y _ HY.out Tryz.underlying52 rfl HSY.out ?_)
    | (refine wpList_load_mid rfl 52 (.tmp 38) rfl g 43 rfl X _ HX.out Tryz.underlying52 rfl HSX.out ?_)
    | (refine wpList_store_seg rfl 52 (.tmp 40) (.tmp 37) rfl g 43 Y rfl rfl A X (Y ++ S) 54 HG.out HA.out HL1.out HSY.out H2.out ?_)
    | (refine wpList_store_seg rfl 52 (.tmp 41) (.tmp 39) rfl g 51 X rfl rfl (A ++ Y) Y S 54 HG2.out HA2.out HL2.out HSX.out H1.out ?_))
  exact HE.out _ _ _ _ _ _
end Go.Proofs.YtnlnmbcaongehaaGreatDoor
namespace Go.Proofs.YtnlnmbcaongehaaGreatDoor
open Go.RowKit
theorem SliceOf.unique {α : Type} {k : Nat} {enc : α → List Value} {Ok : World → α → Prop} {w : World} {a : Option Addr} {xs ys : List α} (hi : ∀ x y, Ok w x → Ok w y → enc x = enc y → x = y) (hk : ∀ x, (enc x).length = k) (h : SliceOf k enc Ok w a xs) (h' : SliceOf k enc Ok w a ys) (hl : xs.length = ys.length) : xs = ys := by
  refine List.ext_getElem hl fun i h1 h2 => ?_
  obtain ⟨b, off, x, hab, _, hx, hc, ho⟩ := h.at_ h1
  obtain ⟨b', off', y, hab', _, hy, hc', ho'⟩ := h'.at_ h2
  rw [hab] at hab'
  simp only [Option.some.injEq, Addr.mk.injEq, and_true] at hab'
  obtain ⟨rfl, rfl⟩ := hab'
  have ex : xs[i] = x := Option.some.inj ((List.getElem?_eq_getElem h1).symm.trans hx)
  have ey : ys[i] = y := Option.some.inj ((List.getElem?_eq_getElem h2).symm.trans hy)
  rw [ex, ey]
  refine hi x y ho ho' (List.ext_getElem? fun j => ?_)
  by_cases hj : j < k
  · have j1 : j < (enc x).length := by rw [hk]; exact hj
    have j2 : j < (enc y).length := by rw [hk]; exact hj
    have e1 := hc j _ (List.getElem?_eq_getElem j1)
    have e2 := hc' j _ (List.getElem?_eq_getElem j2)
    rw [List.getElem?_eq_getElem j1, List.getElem?_eq_getElem j2]
    exact e1.symm.trans e2
  · rw [List.getElem?_eq_none (by rw [hk]; omega), List.getElem?_eq_none (by rw [hk]; omega)]
theorem Run.inj {x y : Run} (h : x.enc = y.enc) : x = y := by
  obtain ⟨_, _, _, _, _⟩ := x
  obtain ⟨_, _, _, _, _⟩ := y
  simp only [Run.enc, List.cons.injEq, Value.string.injEq, Value.int.injEq, Value.bool.injEq, true_and, and_true] at h
  obtain ⟨rfl, rfl, rfl, rfl, rfl⟩ := h
  rfl
theorem Row.unique {w : World} {x y : Row} (h : x.lies w) (h' : y.lies w) (e : x.enc = y.enc) : x = y := by
  obtain ⟨a, c, rs⟩ := x
  obtain ⟨a', c', rs'⟩ := y
  simp only [Row.enc, List.cons.injEq, Value.slice.injEq, and_true] at e
  obtain ⟨rfl, hl, rfl⟩ := e
  have : rs = rs' := SliceOf.unique (fun x y _ _ e => Run.inj e) (fun _ => rfl) h h' hl
  rw [this]
theorem Ev.unique {w : World} {x y : Ev} (h : x.lies w) (h' : y.lies w) (e : x.enc = y.enc) : x = y := by
  obtain ⟨i, n, o, r, k, s, a, c, rs⟩ := x
  obtain ⟨i', n', o', r', k', s', a', c', rs'⟩ := y
  simp only [Ev.enc, List.cons.injEq, Value.slice.injEq, Value.string.injEq, Value.int.injEq, true_and, and_true] at e
  obtain ⟨rfl, rfl, rfl, rfl, rfl, rfl, rfl, hl, rfl⟩ := e
  have : rs = rs' := SliceOf.unique (fun x y h h' e => Row.unique h h' e) (fun _ => rfl) h h' hl
  rw [this]
theorem Hd.inj {x y : Hd} (h : x.enc = y.enc) : x = y := by
  obtain ⟨_, _, _, _, _⟩ := x
  obtain ⟨_, _, _, _, _⟩ := y
  simp only [Hd.enc, List.cons.injEq, Value.string.injEq, Value.int.injEq, Value.bool.injEq, true_and, and_true] at h
  obtain ⟨rfl, rfl, rfl, rfl, rfl⟩ := h
  rfl
theorem Reg.inj {x y : Reg} (h : x.enc = y.enc) : x = y := by
  obtain ⟨_, _, _, _, _, _, _⟩ := x
  obtain ⟨_, _, _, _, _, _, _⟩ := y
  simp only [Reg.enc, List.cons.injEq, Value.string.injEq, Value.int.injEq, Value.bool.injEq, true_and, and_true] at h
  obtain ⟨rfl, rfl, rfl, rfl, rfl, rfl, rfl⟩ := h
  rfl
theorem Cm.inj {x y : Cm} (h : x.enc = y.enc) : x = y := by
  obtain ⟨_, _, _, _, _, _, _, _⟩ := x
  obtain ⟨_, _, _, _, _, _, _, _⟩ := y
  simp only [Cm.enc, List.cons.injEq, Value.string.injEq, Value.int.injEq, Value.bool.injEq, true_and, and_true] at h
  obtain ⟨rfl, rfl, rfl, rfl, rfl, rfl, rfl, rfl⟩ := h
  rfl
theorem Chg.unique {w : World} {x y : Chg} (h : x.lies w) (h' : y.lies w) (e : x.enc = y.enc) : x = y := by
  obtain ⟨s, i, n, ad, gn, oh, nh, rg, nr, oe, ne, oc, nc⟩ := x
  obtain ⟨s', i', n', ad', gn', oh', nh', rg', nr', oe', ne', oc', nc'⟩ := y
  simp only [Chg.enc] at e
  obtain ⟨e0, e⟩ := List.append_inj e rfl
  obtain ⟨e1, e⟩ := List.append_inj e rfl
  obtain ⟨e2, e⟩ := List.append_inj e rfl
  obtain ⟨e3, e⟩ := List.append_inj e rfl
  obtain ⟨e4, e⟩ := List.append_inj e rfl
  obtain ⟨e5, e⟩ := List.append_inj e rfl
  obtain ⟨e6, e⟩ := List.append_inj e rfl
  obtain ⟨e7, e8⟩ := List.append_inj e rfl
  simp only [List.cons.injEq, Value.string.injEq, Value.int.injEq, Value.bool.injEq, true_and, and_true] at e0
  obtain ⟨rfl, rfl, rfl, rfl, rfl⟩ := e0
  obtain rfl := Hd.inj e1
  obtain rfl := Hd.inj e2
  obtain rfl := Reg.inj e3
  obtain rfl := Reg.inj e4
  have h5 : oe = oe' := Ev.unique h.1 h'.1 e5
  have h6 : ne = ne' := Ev.unique h.2 h'.2 e6
  obtain rfl := Cm.inj e7
  obtain rfl := Cm.inj e8
  rw [h5, h6]
theorem flat_unique {α : Type} {k : Nat} {enc : α → List Value} (hk : ∀ x, (enc x).length = k) : ∀ {xs ys : List α}, (∀ x ∈ xs, ∀ y ∈ ys, enc x = enc y → x = y) → xs.length = ys.length → xs.flatMap enc = ys.flatMap enc → xs = ys
  | [], [], _, _, _ => rfl
  | [], y :: ys, _, hl, _ => by cases hl
  | x :: xs, [], _, hl, _ => by cases hl
  | x :: xs, y :: ys, hi, hl, e => by
    rw [List.flatMap_cons, List.flatMap_cons] at e
    obtain ⟨e1, e2⟩ := List.append_inj e (by rw [hk, hk])
    rw [hi x List.mem_cons_self y List.mem_cons_self e1, flat_unique hk (fun x hx y hy => hi x (List.mem_cons_of_mem _ hx) y (List.mem_cons_of_mem _ hy)) (by simpa using hl) e2]
theorem cells_of_cell {w : World} {b o : Nat} {v : Value} (h : w.cell? ⟨b, o, none⟩ = some v) : ∃ c t p, w.heap[b]? = some (.cells c t p) := by
  unfold World.cell? at h
  split at h
  · exact ⟨_, _, _, by assumption⟩
  · cases h
theorem sUses_cells {α : Type} {k : Nat} {enc : α → List Value} {Ok : World → α → Prop} (hk : ∀ x, (enc x).length = k) (h0 : 0 < k) {w : World} {a : Option Addr} {xs : List α} (h : SliceOf k enc Ok w a xs) {b : Nat} (hu : sUses a xs b) : ∃ c t p, w.heap[b]? = some (.cells c t p) := by
  obtain ⟨hne, ad, rfl, rfl⟩ := hu
  obtain ⟨b, off, x, hab, _, _, hc, _⟩ := h.at_ (List.length_pos_iff.2 hne)
  obtain rfl := Option.some.inj hab
  exact cells_of_cell (hc 0 _ (List.getElem?_eq_getElem (by rw [hk]; exact h0)))
theorem Row.uses_cells {w : World} {r : Row} (h : r.lies w) {b : Nat} (hu : r.uses b) : ∃ c t p, w.heap[b]? = some (.cells c t p) := sUses_cells (k := 5) (enc := Run.enc) (fun _ => rfl) (by decide) h hu
theorem Ev.uses_cells {w : World} {x : Ev} (h : x.lies w) {b : Nat} (hu : x.uses b) : ∃ c t p, w.heap[b]? = some (.cells c t p) := by
  rcases hu with hu | ⟨r, hr, hu⟩
  · exact sUses_cells (k := 1) (enc := Row.enc) (fun _ => rfl) (by decide) h hu
  · exact Row.uses_cells (rows_each h hr) hu
theorem Chg.uses_cells {w : World} {x : Chg} (h : x.lies w) {b : Nat} (hu : x.uses b) : ∃ c t p, w.heap[b]? = some (.cells c t p) := hu.elim (Ev.uses_cells h.1) (Ev.uses_cells h.2)
/-- Changes in a row of the call's own: each lies in memory of the call's own, apart from the row. -/
def InvMem (B : Nat) (v : Value) (ys : List Chg) (W : World) : Prop :=
  W.ownsRow B 54 59 v ys.length (ys.flatMap Chg.enc) ∧ ∀ z ∈ ys, z.lies W ∧ ∀ b, z.uses b → v.ownBlock ≠ some b ∧ B ≤ b
theorem InvMem.start (B : Nat) (W : World) : InvMem B (.slice none 0 0) [] W := ⟨World.ownsRow_nil _ _ _ _, fun z hz => by simp at hz⟩
theorem InvMem.unique {B : Nat} {v : Value} {ys zs : List Chg} {W : World} (h : InvMem B v ys W) (h' : InvMem B v zs W) : ys = zs := by
  have hb : ys.length = zs.length ∧ ys.flatMap Chg.enc = zs.flatMap Chg.enc := by
    rcases h.1.2 with ⟨rfl, hn⟩ | ⟨g, cap, cur, rfl, hb, hg, _, _, _, ht⟩
    · rcases h'.1.2 with ⟨_, hn'⟩ | ⟨g', cap', cur', e, _⟩
      · rw [List.eq_nil_of_length_eq_zero hn, List.eq_nil_of_length_eq_zero hn']
        exact ⟨rfl, rfl⟩
      · cases e
    · rcases h'.1.2 with ⟨e, _⟩ | ⟨g', cap', cur', e, _, hg', _, _, _, ht'⟩
      · cases e
      · simp only [Value.slice.injEq, Option.some.injEq, Addr.mk.injEq, and_true] at e
        obtain ⟨rfl, hl, rfl⟩ := e
        rw [hg] at hg'
        simp only [Option.some.injEq, Obj.cells.injEq, and_true] at hg'
        obtain rfl := hg'
        exact ⟨hl, by rw [← ht, ← ht', hl]⟩
  exact flat_unique (k := 59) Chg.len (fun x hx y hy e => Chg.unique (h.2 x hx).1 (h'.2 y hy).1 e) hb.1 hb.2
/-- What keeps the blocks that it speaks of keeps it. -/
theorem InvMem.frame {B : Nat} {v : Value} {ys : List Chg} {W W' : World} (h : InvMem B v ys W) (hs : W.heap.size ≤ W'.heap.size) (hb : ∀ b, B ≤ b → (v.ownBlock = some b ∨ ∃ z ∈ ys, z.uses b) → W'.heap[b]? = W.heap[b]?) : InvMem B v ys W' := by
  refine ⟨⟨h.1.1, ?_⟩, fun z hz => ⟨Chg.deep.frame z W W' (h.2 z hz).1 hs fun b hu => hb b ((h.2 z hz).2 b hu).2 (.inr ⟨z, hz, hu⟩), (h.2 z hz).2⟩⟩
  rcases h.1.2 with hn | ⟨g, cap, cur, rfl, hB, hg, rest⟩
  · exact .inl hn
  · exact .inr ⟨g, cap, cur, rfl, hB, (hb g hB (.inl rfl)).trans hg, rest⟩
theorem InvMem.cells {B : Nat} {v : Value} {ys : List Chg} {W : World} (h : InvMem B v ys W) {b : Nat} (hu : v.ownBlock = some b ∨ ∃ z ∈ ys, z.uses b) : ∃ c t p, W.heap[b]? = some (.cells c t p) := by
  rcases hu with hu | ⟨z, hz, hu⟩
  · rcases h.1.2 with ⟨rfl, _⟩ | ⟨g, cap, cur, rfl, _, hg, _⟩
    · cases hu
    · obtain rfl : g = b := by simpa [Value.ownBlock] using hu
      exact ⟨_, _, _, hg⟩
  · exact Chg.uses_cells (h.2 z hz).1 hu
theorem InvMem.later {B : Nat} {v : Value} {ys : List Chg} {W W' : World} (h : InvMem B v ys W) (hb : Below W.heap.size W W') : InvMem B v ys W' :=
  h.frame hb.size fun b _ hu => by
    obtain ⟨c, t, p, hc⟩ := h.cells hu
    exact hb.block b (Array.getElem?_eq_some_iff.1 hc).1
theorem InvMem.aside {B g : Nat} {v : Value} {ys : List Chg} {W W' : World} (h : InvMem B v ys W) (hs : W.heap.size ≤ W'.heap.size) (ha : Aside W g W') (hv : v.ownBlock ≠ some g) (hu : ∀ z ∈ ys, ¬ z.uses g) : InvMem B v ys W' :=
  h.frame hs fun b _ hb => by
    obtain ⟨c, t, p, hc⟩ := h.cells hb
    refine ha b (Array.getElem?_eq_some_iff.1 hc).1 fun e => ?_
    subst e
    rcases hb with hb | ⟨z, hz, hb⟩
    · exact hv hb
    · exact hu z hz hb
theorem InvMem.kept {B : Nat} {v : Value} {ys : List Chg} {W W' : World} {row : Option Nat} (h : InvMem B v ys W) (hg : W.grownBy W' row) (hr : ∀ r, row = some r → ∃ o : Obj, W.heap[r]? = some o ∧ o.isCells = false) : InvMem B v ys W' :=
  h.frame hg.size fun b _ hb => by
    obtain ⟨c, t, p, hc⟩ := h.cells hb
    refine hg.block b (Array.getElem?_eq_some_iff.1 hc).1 fun e => ?_
    obtain ⟨o, ho, hn⟩ := hr b e.symm
    rw [hc] at ho
    cases ho
    cases hn
theorem fill_row (Z : List Value) (k : Nat) (hk : Z.length = k) (h0 : 0 < k) (cells : Array Value) (h : cells.size = k) : Instr.fill (fun i => some (i * k, k)) cells [(0, .agg Z.toArray)] = some Z.toArray := by
  obtain ⟨r, hr, hsz, hc⟩ := Great.fill_dense (s := k) h0 [.agg Z.toArray] 0 cells (fun v hv => by rw [List.mem_singleton.1 hv]; simpa [Value.cells] using hk) (by simp [h])
  rw [show ([Value.agg Z.toArray].zipIdx 0).map (fun x => (x.2, x.1)) = [(0, Value.agg Z.toArray)] from rfl] at hr
  rw [hr]
  congr 1
  apply Array.ext_getElem?
  intro j
  rw [hc j]
  by_cases hj : j < k
  · rw [if_pos (by simp; exact hj), Nat.div_eq_of_lt hj, Nat.mod_eq_of_lt hj]
    rfl
  · rw [if_neg (by simp; omega), Array.getElem?_eq_none (by omega), Array.getElem?_eq_none (by simp; omega)]
theorem wpList_literal_row {P : Program} {ops : Array Oper} {rest : List Oper} {o : Oper} {a : Act} {w : World} {Q : Exit → Act → World → Prop} (hg : o.guard = none) (t e : TypeId) (x : Operand) (ho : o.op = .buildSlice t 1 #[(0, x)])
    (Z : List Value) (hx : a.eval x = .agg Z.toArray) (ie : TypeInfo) (z : Value) (k : Nat) (hk : Z.length = k) (h0 : 0 < k) (h1 : k ≤ 1000)
    (hu : P.underlying t = some (.slice e)) (hie : P.info? e = some ie) (hz : ie.zero = some z) (hsz : ie.size = k)
    (h : wpList P ops Q rest (a.put o.dst (.slice (some ⟨w.heap.size, 0, none⟩) 1 1)) (w.alloc (.cells Z.toArray e))) : wpList P ops Q (o :: rest) a w :=
  wpList_buildSlice hg t e 1 #[(0, x)] ho Z.toArray ie z hu hie hz (by rw [hsz]; omega) (by rw [hsz]; omega) (by
    rw [hsz]
    simp only [List.map_toArray, List.map_cons, List.map_nil, hx]
    exact fill_row Z k hk h0 _ (by simp)) h
end Go.Proofs.YtnlnmbcaongehaaGreatDoor
