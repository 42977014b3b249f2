/- Links in memory, and the contract of align.inForm: whether links are in form. -/
import Derived.Test.YtdgakmpopgpijaaGreatDoorMaps
set_option linter.unusedVariables false
namespace Go.Proofs.YtdgakmpopgpijaaGreatDoor
open Go.RowKit

/-- A link. -/
structure Lk where
  tpl : Int
  tgt : Int
  st : Int
instance : DecidableEq Lk := fun a b => if h : a.tpl = b.tpl ∧ a.tgt = b.tgt ∧ a.st = b.st then isTrue (by cases a; cases b; simp_all) else isFalse (by rintro rfl; simp at h)

def Lk.enc (x : Lk) : List Value := [.int .i64 x.tpl, .int .i64 x.tgt, .int .u8 x.st]
def Lk.fits (x : Lk) : Prop := i64 x.tpl ∧ i64 x.tgt ∧ 0 ≤ x.st ∧ x.st ≤ 255
def LksAt (w : World) (a : Option Addr) (xs : List Lk) : Prop := SliceOf 3 Lk.enc Flat w a xs
theorem LksAt.later {w w' : World} {a : Option Addr} {xs : List Lk} (h : LksAt w a xs) (hb : Below w.heap.size w w') : LksAt w' a xs := SliceOf.keeps Flat.keeps w w' a xs hb h

def lkOrder (prev : Option Lk) (x : Lk) : Prop := match prev with
  | none => False
  | some p => x.tpl ≤ p.tpl
instance (prev : Option Lk) (x : Lk) : Decidable (lkOrder prev x) := by unfold lkOrder; cases prev <;> infer_instance
/-- Whether a link is not in form behind the one ahead of it. -/
def lkBad (prev : Option Lk) (x : Lk) : Prop := x.tpl < 1 ∨ 1099511627776 < x.tpl ∨ lkOrder prev x ∨ x.st < 1 ∨ 4 < x.st ∨ (¬ (x.tgt = 0 ↔ x.st = 3)) ∨ x.tgt < 0 ∨ 1099511627776 < x.tgt
instance (prev : Option Lk) (x : Lk) : Decidable (lkBad prev x) := by unfold lkBad; infer_instance
def seenAt (xs : List Lk) : Nat → Int → Bool
  | 0 => fun _ => false
  | k + 1 => fun y => match xs[k]? with
    | none => seenAt xs k y
    | some x => if x.tgt = 0 then seenAt xs k y else if y = x.tgt then true else seenAt xs k y
/-- Whether the links from the k-th on are in form. -/
def formGo (xs : List Lk) (k : Nat) : Nat → Bool
  | 0 => true
  | n + 1 => match xs[k]? with
    | none => true
    | some x => if lkBad (aheadOf xs k) x ∨ seenAt xs k x.tgt = true then false else formGo xs (k + 1) n
/-- Whether links are in form. -/
def formB (xs : List Lk) : Bool := formGo xs 0 xs.length

theorem form_cases (prev : Option Lk) (x : Lk) (s : Bool) :
    ((lkBad prev x ∨ s = true) ∧ (x.tpl < 1 ∨ (1 ≤ x.tpl ∧ 1099511627776 < x.tpl) ∨ (1 ≤ x.tpl ∧ x.tpl ≤ 1099511627776 ∧ lkOrder prev x) ∨ (1 ≤ x.tpl ∧ x.tpl ≤ 1099511627776 ∧ ¬ lkOrder prev x ∧ x.st < 1) ∨ (1 ≤ x.tpl ∧ x.tpl ≤ 1099511627776 ∧ ¬ lkOrder prev x ∧ 1 ≤ x.st ∧ 4 < x.st))) ∨
    (1 ≤ x.tpl ∧ x.tpl ≤ 1099511627776 ∧ ¬ lkOrder prev x ∧ 1 ≤ x.st ∧ x.st ≤ 4 ∧
      (((lkBad prev x ∨ s = true) ∧ ((x.tgt = 0 ∧ ¬ x.st = 3) ∨ (¬ x.tgt = 0 ∧ x.st = 3))) ∨
       ((x.tgt = 0 ∧ x.st = 3 ∧ (((lkBad prev x ∨ s = true) ∧ s = true) ∨ (¬ (lkBad prev x ∨ s = true) ∧ s = false))) ∨ (¬ x.tgt = 0 ∧ ¬ x.st = 3 ∧ (((lkBad prev x ∨ s = true) ∧ x.tgt < 0) ∨ ((lkBad prev x ∨ s = true) ∧ 0 ≤ x.tgt ∧ 1099511627776 < x.tgt) ∨ ((lkBad prev x ∨ s = true) ∧ 0 ≤ x.tgt ∧ x.tgt ≤ 1099511627776 ∧ s = true) ∨ (¬ (lkBad prev x ∨ s = true) ∧ 0 ≤ x.tgt ∧ x.tgt ≤ 1099511627776 ∧ s = false)))))) := by
  unfold lkBad
  by_cases ho : lkOrder prev x <;> cases s <;> by_cases h1 : x.tgt = 0 <;> by_cases h2 : x.st = 3 <;> simp [ho, h1, h2] <;> omega

theorem BMap.alloc {w : World} {b n : Nat} {f : Int → Bool} (h : BMap w b n f) (o : Obj) : BMap (w.alloc o) b n f := h.below ((Below.refl _ _).alloc (Nat.le_refl _) o) h.lt
theorem BMap.drewN {w : World} {b n : Nat} {f : Int → Bool} (h : BMap w b n f) (q : Nat) : BMap (w.drewN q) b n f := h.below (below_drewN (Below.refl w.heap.size _) q) h.lt
theorem BMap.mono {w : World} {b n m : Nat} {f : Int → Bool} (h : BMap w b n f) (hm : n ≤ m) : BMap w b m f := by
  obtain ⟨D, h, r⟩ := h
  exact ⟨D, h.mono hm, r⟩
theorem formGo_at (xs : List Lk) (k : Nat) (x : Lk) (h : xs[k]? = some x) : formGo xs k (xs.length - k) = if lkBad (aheadOf xs k) x ∨ seenAt xs k x.tgt = true then false else formGo xs (k + 1) (xs.length - (k + 1)) := by
  have hk : k < xs.length := (List.getElem?_eq_some_iff.1 h).1
  rw [show xs.length - k = (xs.length - (k + 1)) + 1 by omega, formGo, h]
theorem formGo_end (xs : List Lk) : formGo xs xs.length (xs.length - xs.length) = true := by rw [Nat.sub_self]; rfl
theorem seenAt_put (xs : List Lk) (k : Nat) (x : Lk) (h : xs[k]? = some x) (hx : ¬ x.tgt = 0) : (fun y => if y = x.tgt then true else seenAt xs k y) = seenAt xs (k + 1) := by
  funext y
  simp only [seenAt, h, if_neg hx]
theorem seenAt_skip (xs : List Lk) (k : Nat) (x : Lk) (h : xs[k]? = some x) (hx : x.tgt = 0) : seenAt xs k = seenAt xs (k + 1) := by
  funext y
  simp only [seenAt, h, if_pos hx]

def FormRel (xs : List Lk) (w : World) (k : Nat) (wr : World) : Prop := BMap wr w.heap.size k (seenAt xs k) ∧ Below w.heap.size w wr

set_option maxHeartbeats 6400000 in
theorem inForm_calls (a : Option Addr) (cap : Nat) (xs : List Lk) (w : World) (hr : LksAt w a xs) (hf : ∀ x ∈ xs, x.fits) (hl : xs.length ≤ 4000000) :
    Calls Tryz.prog 27 #[.slice a xs.length cap] w fun e w' => e = .returned (.bool (formB xs)) ∧ Below w.heap.size w w' := by
  generalize hG : formB xs = G
  have H0 := Lib.hid (show formGo xs 0 (xs.length - 0) = G from hG)
  clear hG
  have hmm := @run_makeMap Tryz.prog
  go_enter Tryz.func27, Tryz.ntmps27
  go_wp2_with fail
  go_loopw [9] (fun i wr => ∃ k : Nat, k ≤ xs.length ∧ i = .int .i64 k ∧ formGo xs k (xs.length - k) = G ∧ FormRel xs w k wr) (fun i _ => xs.length - (intOf i).toNat)
  case atStart => exact ⟨0, by omega, rfl, H0.out, BMap.made w, (Below.refl _ _).alloc (Nat.le_refl _) _⟩
  case round =>
    obtain ⟨k, hk, rfl, hp, hM, hb⟩ := hrel
    by_cases hlt : k < xs.length
    · have hRr := hr.later hb
      obtain ⟨b, off, x, rfl, hbl, hx, hc, _⟩ := hRr.at_ hlt
      have hft := hf x (List.mem_of_getElem? hx)
      have HPut := Lib.hid (seenAt_put xs k x hx)
      have HSkip := Lib.hid (seenAt_skip xs k x hx)
      rw [formGo_at xs k x hx] at hp
      have HP := Lib.hid hp
      have hcs := form_cases (aheadOf xs k) x (seenAt xs k x.tgt)
      obtain ⟨i1, i2, i3, i4⟩ := hft
      have hMlt := hM.lt
      have hwsz := hb.size
      have hgx := fun j v h => box_cell wr x.enc.toArray 49 j v h
      have hq0 : Below (wr.heap.size + 1) (wr.alloc (.cells x.enc.toArray 49)) (wr.alloc (.cells x.enc.toArray 49)) := Below.refl _ _
      have hqq : ∀ q, Below (wr.heap.size + 1) (wr.alloc (.cells x.enc.toArray 49)) ((wr.alloc (.cells x.enc.toArray 49)).drewN q) := fun q => below_drewN (Below.refl _ _) q
      have HBW := Lib.hid (fun w1 (h : Below (wr.heap.size + 1) (wr.alloc (.cells x.enc.toArray 49)) w1) => (hb.alloc hwsz _).trans (h.mono (by omega)))
      have HM := Lib.hid (fun q => (hM.alloc (.cells x.enc.toArray 49)).drewN q)
      have hlk : ∀ q, ((Instr.lookup 65 (.map (some w.heap.size)) (.int .i64 x.tgt) false).run Tryz.prog ((wr.alloc (.cells x.enc.toArray 49)).drewN q)) = _ := fun q => (HM.out q).look i2
      have hpu := Classical.axiomOfChoice (fun q => (HM.out q).put i2 (by unfold maxLen; omega) true)
      obtain ⟨F, hF⟩ := hpu
      have hF1 := fun q => (hF q).1
      have HF2 := Lib.hid (fun q => (hF q).2)
      have hpv : (k = 0 ∧ aheadOf xs k = none) ∨ (∃ y, 1 ≤ k ∧ aheadOf xs k = some y ∧ ∀ w1, Below (wr.heap.size + 1) (wr.alloc (.cells x.enc.toArray 49)) w1 → w1.cell? ⟨b, off + (k - 1) * 3, none⟩ = some (.int .i64 y.tpl)) := by
        rcases Nat.eq_zero_or_pos k with rfl | hk0
        · exact .inl ⟨rfl, rfl⟩
        · obtain ⟨b', off', y, hab, _, hy, hcy, _⟩ := hRr.at_ (show k - 1 < xs.length by omega)
          simp only [Option.some.injEq, Addr.mk.injEq, and_true] at hab
          obtain ⟨rfl, rfl⟩ := hab
          refine .inr ⟨y, hk0, ?_, fun w1 h => ?_⟩
          · obtain ⟨j, rfl⟩ : ∃ j, k = j + 1 := ⟨k - 1, by omega⟩
            simpa [aheadOf] using hy
          · rw [h.cell (p := ⟨b, off + (k - 1) * 3, none⟩) (by simp; omega), World.cell?_alloc_lt _ _ _ (by simpa using hbl)]
            exact hcy 0 _ rfl
      clear hF hRr hM hp hx hf hr
      generalize hsn : seenAt xs k x.tgt = S at *
      have HGB := Lib.hid (fun (h : lkBad (aheadOf xs k) x ∨ S = true) => (show false = G by rw [← HP.out, if_pos h]))
      have HGG := Lib.hid (fun (h : ¬ (lkBad (aheadOf xs k) x ∨ S = true)) => (show formGo xs (k + 1) (xs.length - (k + 1)) = G by rw [← HP.out, if_neg h]))
      generalize aheadOf xs k = pv at *
      clear hsn HP
      obtain ⟨tpl, tgt, st⟩ := x
      have d0 := hc 0 _ rfl; have d1 := hc 1 _ rfl; have d2 := hc 2 _ rfl
      have g0 := hgx 0 _ rfl; have g1 := hgx 1 _ rfl; have g2 := hgx 2 _ rfl
      simp only [Nat.add_zero, Lk.enc] at d0 d1 d2 g0 g1 g2 hq0 hqq HBW HM hlk hF1 HF2 hpv i1 i2 i3 i4 hcs HPut HSkip HGB HGG
      have hsz : (wr.alloc (.cells #[.int .i64 tpl, .int .i64 tgt, .int .u8 st] 49)).heap.size = wr.heap.size + 1 := World.size_alloc _ _
      generalize hW1 : wr.alloc (.cells #[.int .i64 tpl, .int .i64 tgt, .int .u8 st] 49) = W1 at *
      have HW1 := Lib.hid hW1
      have HSZ := Lib.hid hsz
      clear hc hgx hW1 hsz H0
      have HQB := Lib.hid (fun q => HBW.out _ (hqq q))
      have HFB := Lib.hid (fun q => (HQB.out q).grown (HF2.out q).2 (by have := (hqq q).size; rw [HSZ.out] at this; omega) (fun j hj => by simp at hj; omega))
      have hcell : (k = 0 ∧ pv = none ∧ decide (0 < k) = false) ∨ (∃ y, 1 ≤ k ∧ pv = some y ∧ decide (0 < k) = true ∧ (1 : Int) ≤ (k : Int) ∧ (k : Int) - 1 < (xs.length : Int) ∧ IntKind.i64.wrap ((k : Int) - 1) = (k : Int) - 1 ∧ ((k : Int) - 1).toNat = k - 1 ∧ ∀ w1, Below (wr.heap.size + 1) W1 w1 → w1.cell? ⟨b, off + (k - 1) * 3, none⟩ = some (.int .i64 y.tpl)) := by
        rcases hpv with ⟨h1, h2⟩ | ⟨y, h1, h2, h3⟩
        · exact .inl ⟨h1, h2, by simp; omega⟩
        · exact .inr ⟨y, h1, h2, by simp; omega, by omega, by omega, IntWalk.i64_in _ (by omega), by omega, h3⟩
      clear hpv
      rcases hcs with ⟨hbad, h1 | ⟨h1, h2⟩ | ⟨h1, h2, h3⟩ | ⟨h1, h2, h3, h4⟩ | ⟨h1, h2, h3, h4, h5⟩⟩ | ⟨h1, h2, h3, h4, h5, hcs⟩
      · have HV := Lib.hid (HGB.out hbad)
        clear HGB HGG HF2 hF1 hlk hcell hbad HM
        go_wp2_with fail
        rw [HW1.out]
        go_quiet (fail)
        go_wp2_with fail
        go_ret
        exact ⟨by rw [← HV.out]; rfl, HQB.out _⟩
      · have HV := Lib.hid (HGB.out hbad)
        have h1d : decide (tpl < 1) = false := by simp; omega
        clear HGB HGG HF2 hF1 hlk hcell hbad HM
        go_wp2_with fail
        rw [HW1.out]
        go_quiet (fail)
        go_wp2_with fail
        go_ret
        exact ⟨by rw [← HV.out]; rfl, HQB.out _⟩
      · have HV := Lib.hid (HGB.out hbad)
        have h1d : decide (tpl < 1) = false := by simp; omega
        have h2d : decide (1099511627776 < tpl) = false := by simp; omega
        rcases hcell with ⟨hk0, rfl, hkd⟩ | ⟨y, hk1, rfl, hkd, hkz, hkl, hwr, hkn, p0⟩
        · exact absurd h3 (by simp [lkOrder])
        have h3d : decide (tpl ≤ y.tpl) = true := by simpa [lkOrder] using h3
        generalize y.tpl = ty at *
        clear HGB HGG HF2 hF1 hlk hbad HM h3
        go_wp2_with fail
        rw [HW1.out]
        go_quiet (fail)
        go_wp2_with fail
        go_ret
        exact ⟨by rw [← HV.out]; rfl, HQB.out _⟩
      all_goals
        have h1d : decide (tpl < 1) = false := by simp; omega
        have h2d : decide (1099511627776 < tpl) = false := by simp; omega
        have hprev : (decide (0 < k) = false) ∨ (∃ ty : Int, (decide (tpl ≤ ty) = false) ∧ 1 ≤ k ∧ decide (0 < k) = true ∧ (1 : Int) ≤ (k : Int) ∧ (k : Int) - 1 < (xs.length : Int) ∧ IntKind.i64.wrap ((k : Int) - 1) = (k : Int) - 1 ∧ ((k : Int) - 1).toNat = k - 1 ∧ ∀ w1, Below (wr.heap.size + 1) W1 w1 → w1.cell? ⟨b, off + (k - 1) * 3, none⟩ = some (.int .i64 ty)) := by
          rcases hcell with ⟨_, rfl, hkd⟩ | ⟨y, hk1, rfl, hkd, hkz, hkl, hwr, hkn, p0⟩
          · exact .inl hkd
          · exact .inr ⟨y.tpl, by simpa [lkOrder] using h3, hk1, hkd, hkz, hkl, hwr, hkn, p0⟩
        clear hcell h3
      · have HV := Lib.hid (HGB.out hbad)
        have h4d : decide (st < 1) = true := by simp; omega
        clear HGB HGG HF2 hF1 hlk hbad HM
        rcases hprev with hkd | ⟨ty, h3d, hk1, hkd, hkz, hkl, hwr, hkn, p0⟩
        all_goals
          go_wp2_with fail
          rw [HW1.out]
          go_quiet (fail)
          go_wp2_with fail
          go_ret
          exact ⟨by rw [← HV.out]; rfl, HQB.out _⟩
      · have HV := Lib.hid (HGB.out hbad)
        have h4d : decide (st < 1) = false := by simp; omega
        have h5d : decide (4 < st) = true := by simp; omega
        clear HGB HGG HF2 hF1 hlk hbad HM
        rcases hprev with hkd | ⟨ty, h3d, hk1, hkd, hkz, hkl, hwr, hkn, p0⟩
        all_goals
          go_wp2_with fail
          rw [HW1.out]
          go_quiet (fail)
          go_wp2_with fail
          go_ret
          exact ⟨by rw [← HV.out]; rfl, HQB.out _⟩
      have h4d : decide (st < 1) = false := by simp; omega
      have h5d : decide (4 < st) = false := by simp; omega
      rcases hcs with ⟨hbad, ⟨rfl, h6⟩ | ⟨h6, rfl⟩⟩ | ⟨rfl, rfl, ⟨hbad, rfl⟩ | ⟨hgood, rfl⟩⟩ | ⟨h6, h7, ⟨hbad, h8⟩ | ⟨hbad, h8, h9⟩ | ⟨hbad, h8, h9, rfl⟩ | ⟨hgood, h8, h9, rfl⟩⟩
      · have HV := Lib.hid (HGB.out hbad)
        have h6d : (st == 3) = false := by simpa using h6
        clear HGB HGG HF2 hF1 hlk hbad HM h6
        rcases hprev with hkd | ⟨ty, h3d, hk1, hkd, hkz, hkl, hwr, hkn, p0⟩
        all_goals
          go_wp2_with fail
          rw [HW1.out]
          go_quiet (fail)
          go_wp2_with fail
          go_ret
          exact ⟨by rw [← HV.out]; rfl, HQB.out _⟩
      · have HV := Lib.hid (HGB.out hbad)
        have h6d : (tgt == 0) = false := by simpa using h6
        clear HGB HGG HF2 hF1 hlk hbad HM h6
        rcases hprev with hkd | ⟨ty, h3d, hk1, hkd, hkz, hkl, hwr, hkn, p0⟩
        all_goals
          go_wp2_with fail
          rw [HW1.out]
          go_quiet (fail)
          go_wp2_with fail
          go_ret
          exact ⟨by rw [← HV.out]; rfl, HQB.out _⟩
      · have HV := Lib.hid (HGB.out hbad)
        clear HGB HGG HF2 hF1 hbad HM
        rcases hprev with hkd | ⟨ty, h3d, hk1, hkd, hkz, hkl, hwr, hkn, p0⟩
        all_goals
          go_wp2_with fail
          rw [HW1.out]
          go_quiet (fail)
          go_wp2_with fail
          go_ret
          exact ⟨by rw [← HV.out]; rfl, HQB.out _⟩
      · have HV := Lib.hid (HGG.out hgood)
        have HSK := HSkip.out rfl
        have HMN := Lib.hid (fun q => (HM.out q).mono (Nat.le_succ k))
        rw [HSK] at HMN
        clear HGB HGG HF2 hF1 hgood HM HSK
        rcases hprev with hkd | ⟨ty, h3d, hk1, hkd, hkz, hkl, hwr, hkn, p0⟩
        all_goals
          go_wp2_with fail
          rw [HW1.out]
          go_quiet (fail)
          go_wp2_with fail
          go_roundw
          case rel => exact ⟨k + 1, by omega, by go_num, HV.out, HMN.out _, HQB.out _⟩
          case measure => simp [intOf]; omega
      all_goals
        have h6d : (tgt == 0) = false := by simpa using h6
        have h6e : (tgt != 0) = true := by simpa using h6
        have h7d : (st == 3) = false := by simpa using h7
      · have HV := Lib.hid (HGB.out hbad)
        clear HGB HGG HF2 hF1 hlk hbad HM h6 h7
        rcases hprev with hkd | ⟨ty, h3d, hk1, hkd, hkz, hkl, hwr, hkn, p0⟩
        all_goals
          go_wp2_with fail
          rw [HW1.out]
          go_quiet (fail)
          go_wp2_with fail
          go_ret
          exact ⟨by rw [← HV.out]; rfl, HQB.out _⟩
      · have HV := Lib.hid (HGB.out hbad)
        clear HGB HGG HF2 hF1 hlk hbad HM h6 h7
        rcases hprev with hkd | ⟨ty, h3d, hk1, hkd, hkz, hkl, hwr, hkn, p0⟩
        all_goals
          go_wp2_with fail
          rw [HW1.out]
          go_quiet (fail)
          go_wp2_with fail
          go_ret
          exact ⟨by rw [← HV.out]; rfl, HQB.out _⟩
      · have HV := Lib.hid (HGB.out hbad)
        clear HGB HGG HF2 hF1 hbad HM h6 h7
        rcases hprev with hkd | ⟨ty, h3d, hk1, hkd, hkz, hkl, hwr, hkn, p0⟩
        all_goals
          go_wp2_with fail
          rw [HW1.out]
          go_quiet (fail)
          go_wp2_with fail
          go_ret
          exact ⟨by rw [← HV.out]; rfl, HQB.out _⟩
      · have HV := Lib.hid (HGG.out hgood)
        have HMN := Lib.hid (fun q => (HF2.out q).1)
        rw [HPut.out h6] at HMN
        clear HGB HGG HF2 hgood HM h6 h7 HPut
        rcases hprev with hkd | ⟨ty, h3d, hk1, hkd, hkz, hkl, hwr, hkn, p0⟩
        all_goals
          go_wp2_with fail
          rw [HW1.out]
          go_quiet (fail)
          go_wp2_with fail
          go_roundw
          case rel => exact ⟨k + 1, by omega, by go_num, HV.out, HMN.out _, HFB.out _⟩
          case measure => simp [intOf]; omega
    · obtain rfl : k = xs.length := by omega
      rw [formGo_end] at hp
      have HP := Lib.hid hp
      clear hp H0
      go_wp2_with fail
      go_ret
      exact ⟨by rw [← HP.out]; rfl, hb⟩

end Go.Proofs.YtdgakmpopgpijaaGreatDoor
