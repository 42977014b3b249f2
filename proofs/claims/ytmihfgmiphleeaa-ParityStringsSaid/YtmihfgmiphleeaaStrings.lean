/- ParityStrings returns true for every slice of bytes; nothing that was in memory is changed. No conditions. -/
import Derived.Test.YtmihfgmiphleeaaRefDecode
import Derived.Test.YtmihfgmiphleeaaKeeps
import Derived.Deep.RegionWith
set_option linter.unusedVariables false
namespace Go.Proofs.Ytmihfgmiphleeaa
open Go.RowKit
/-- What a slice reads as, in every later world. -/
def Stays (k : IntKind) (w : World) (a : Option Addr) (zs : List Int) : Prop := ∀ w', Below w.heap.size w w' → Holds k w' a zs
theorem Holds.stays {k : IntKind} {w : World} {a : Option Addr} {zs : List Int} (h : Holds k w a zs) : Stays k w a zs := fun w' hb => h.later hb (Nat.le_refl _)

theorem refEncode_at (a : Option Addr) (cap n : Nat) (zs : List Int) (w : World) (hn : zs.length = n) (h : Holds .u8 w a zs) (hlen : zs.length ≤ 300) (hb : Bytes zs) :
    Calls Try.prog 18 #[.slice a n cap] w fun e w' => ∃ x c, e = .returned (.slice x n c) ∧ Holds .u8 w' x (zs.map addP) ∧ Below w.heap.size w w' := by
  subst hn
  refine (refEncode_calls a cap zs w h hlen hb).mono ?_
  rintro e w' ⟨v, rfl, hG, hB⟩
  obtain ⟨x, c, rfl, hH⟩ := Holds.of_owns hG
  rw [upTo_all] at hH
  exact ⟨x, c, by rw [upTo_length], hH, hB⟩

theorem refDecode_at (a : Option Addr) (cap n : Nat) (zs : List Int) (w : World) (hn : zs.length = n) (h : Holds .u8 w a zs) (hlen : zs.length ≤ 300) (hb : Bytes zs) :
    Calls Try.prog 16 #[.slice a n cap] w fun e w' => ∃ x c y d, e = .returned (.tuple #[.slice x n c, .slice y (bads zs zs.length).length d]) ∧ Holds .u8 w' x (zs.map low) ∧ Holds .i64 w' y (bads zs zs.length) ∧ Below w.heap.size w w' := by
  subst hn
  refine (refDecode_calls a cap zs w h hlen hb).mono ?_
  rintro e w' ⟨v, u, rfl, hG, hG2, hB⟩
  obtain ⟨x, c, rfl, hH⟩ := Holds.of_owns hG
  obtain ⟨y, d, rfl, hH2⟩ := Holds.of_owns hG2
  rw [upTo_all] at hH
  exact ⟨x, c, y, d, by rw [upTo_length], hH, hH2, hB⟩

theorem decode_at2 (a : Option Addr) (cap n : Nat) (zs : List Int) (w : World) (hn : zs.length = n) (h : Holds .u8 w a zs) (hlen : zs.length ≤ 300) (hb : Bytes zs) :
    Calls Try.prog 15 #[.slice a n cap] w fun e w' => ∃ x c y d, e = .returned (.tuple #[.slice x n c, .slice y (bads zs zs.length).length d]) ∧ Holds .u8 w' x (zs.map low) ∧ Holds .i64 w' y (bads zs zs.length) ∧ Below w.heap.size w w' := by
  subst hn
  refine (decode_calls a cap zs w h hlen hb).mono ?_
  rintro e w' ⟨v, rfl, hM, hG2⟩
  obtain ⟨y, d, rfl, hH2⟩ := Holds.of_owns hG2
  exact ⟨_, _, y, d, rfl, hM.holds, hH2, hM.below⟩

theorem encode_at2 (a : Option Addr) (cap n : Nat) (zs : List Int) (w : World) (hn : zs.length = n) (h : Holds .u8 w a zs) (hlen : zs.length ≤ 300) (hb : Bytes zs) :
    Calls Try.prog 17 #[.slice a n cap] w fun e w' => ∃ x c, e = .returned (.slice x n c) ∧ Holds .u8 w' x (zs.map addP) ∧ Below w.heap.size w w' := by
  refine (encode_at a cap n zs w hn h hlen hb).mono ?_
  rintro e w' ⟨rfl, hM⟩
  exact ⟨_, _, rfl, hM.holds, hM.below⟩

end Go.Proofs.Ytmihfgmiphleeaa
namespace Go.Proofs.Ytmihfgmiphleeaa.parityStrings
open Go.ChangeShapes Go.WideShapes Go.ChangeAt Go.RowKit
open Go.ChangeMaps (open_string shut_string)

theorem own : ownKnob Try.prog.godebug = none := by kernel_rfl
theorem laidOut : laidOutB Try.prog = true := by kernel_rfl

set_option maxRecDepth 100000 in
set_option maxHeartbeats 1600000 in
theorem walk (a0 : Option Addr) (len0 cap0 : Nat) (z0 : List Int) (w : World) (w0 : IsRow .u8 w a0 len0 cap0 z0) :
    Calls Try.prog 5 #[.slice a0 len0 cap0] w fun e w' => e = .returned (.bool true) ∧ Below w.heap.size w w' := by
  obtain ⟨ys, hys, hH, hB, hl, hl2, hl3, hl4⟩ := w0.cut
  have HY := Lib.hid hys
  have hbl := bads_len ys ys.length
  clear w0 hys
  unfold maxLen at hl4
  go_enter Try.func5, Try.ntmps5
  by_cases h300 : len0 ≤ 300
  case' pos => have hn := Lib.hid (show ys.length = len0 by have := HY.out; omega)
  case' neg => have hn := Lib.hid (show ys.length = 300 by have := HY.out; omega)
  all_goals
    go_wp2_with (first
      | (go_at_call 8; refine (awake_calls _).mono ?_; rintro e w1 ⟨rfl, hb1⟩))
    refine (decode_at2 a0 cap0 _ ys _ hn.out (hH.later hb1 (Nat.le_refl _)) hl hB).mono ?_
    rintro e w2 ⟨x1, c1, y1, d1, rfl, hx1, hy1, hb2⟩
    replace hb2 : Below w.heap.size w w2 := hb1.trans (hb2.mono hb1.size)
    go_wp2_with fail
    refine (refDecode_at a0 cap0 _ ys _ hn.out (hH.later hb2 (Nat.le_refl _)) hl hB).mono ?_
    rintro e w3 ⟨x2, c2, y2, d2, rfl, hx2, hy2, hb3⟩
    replace hx1 := hx1.stays w3 hb3
    replace hy1 := hy1.stays w3 hb3
    replace hb3 : Below w.heap.size w w3 := hb2.trans (hb3.mono hb2.size)
    have hr3 : Below w3.heap.size w3 w3.drew := (Below.refl _ _).drew
    have T1 := fun (w' : World) (hb : Below w3.heap.size w3 w') => run_text (n := ys.length) (cap := c1) (hx1.stays w' hb) (by simp)
    have T2 := fun (w' : World) (hb : Below w3.heap.size w3 w') => run_text (n := ys.length) (cap := c2) (hx2.stays w' hb) (by simp)
    rw [hn.out] at T1 T2
    have hH3 := hH.later hb3 (Nat.le_refl _)
    clear hb1 hb2 hH hx1 hx2
    go_wp2_with fail
    go_region_with (first
      | (go_at_call 17; refine (encode_at2 a0 cap0 _ ys _ hn.out (hH3.later hr3 (Nat.le_refl _)) hl hB).mono ?_; rintro e w4 ⟨x3, c3, rfl, hx3, hb4⟩; replace hb4 : Below w3.heap.size w3 w4 := hr3.trans (hb4.mono hr3.size); have hr4 : Below w4.heap.size w4 w4 := Below.refl _ _; have T3 := fun (w' : World) (hb : Below w4.heap.size w4 w') => run_text (n := ys.length) (cap := c3) (hx3.stays w' hb) (by simp); rw [hn.out] at T3)
      | (go_at_call 18; refine (refEncode_at a0 cap0 _ ys _ hn.out (hH3.later hb4 (Nat.le_refl _)) hl hB).mono ?_; rintro e w5 ⟨x4, c4, rfl, hx4, hb5⟩; have hb6 : Below w3.heap.size w3 w5 := hb4.trans (hb5.mono hb4.size); have T4 := fun (c : Nat) => run_text (n := ys.length) (cap := c) hx4 (by simp); rw [hn.out] at T4)
      | (go_at_call 19; refine (ints_same _ _ _ _ _ (bads ys ys.length) _ rfl (hy1.stays _ hb6) (hy2.stays _ hb6) (by omega)).mono ?_; rintro e w6 ⟨rfl, hb7⟩))
    all_goals
      go_wp2_with fail
      go_ret
      exact ⟨rfl, hb3.trans ((hb6.trans (hb7.mono hb6.size)).mono hb3.size)⟩

set_option maxRecDepth 100000 in
theorem lifted (os : Os) (started : os.Started) (H : Type) (enc : TypeId × Value → H) :
    ReturnsInHanded {} Try.checked os 5 .any (Rows.parityStringsSpec.pre6 enc Try.prog Try.f5 Rows.parityStringsRow.domain false) (Rows.parityStringsSpec.post enc Try.prog Try.f5 false true false false) := by
  refine returnsInHanded_of_change (C := Try.checked) own started (by kernel_rfl) Try.func5
    (ChangeSpec.witness6 (enc := enc) (C := Try.checked) false ⟨#[], #[.slice none 0 0], []⟩ 8 (by kernel_rfl) (by kernel_rfl) (by kernel_rfl) (by kernel_rfl)) ?_
  intro W base args ds gs before hval0 hW hcnd _
  have hval : ∀ (j : Nat) t v, Try.f5.params[j]? = some t → args[j]? = some v → Value.okWide Try.prog W .any base t v := hval0
  have hW' := hW
  obtain ⟨p, q, hA0, hV, rfl, hfz, hnd⟩ := hW
  have hA : DataW.TrodAll enc Try.prog W 0 (fun _ => true) true Try.f5.params.toList args.toList ds p := hA0
  rw [Try.params5] at hA hval
  obtain ⟨v0, vs0, d0, ds0, p0, q0, hargs, rfl, rfl, h0, r0⟩ := trodAll_cons hA
  obtain ⟨rfl, rfl, rfl⟩ := trodAll_nil r0
  obtain rfl : args = #[v0] := by cases args; simp_all
  obtain ⟨rfl, rfl⟩ := trodVars_none hV
  obtain ⟨a0, len0, cap0, rfl⟩ := okWide_slice Try.underlying28 (hval 0 28 v0 rfl rfl)
  have k0 := h0
  have lt0 : ∀ x ∈ p0, x.block < W.heap.size := by obtain ⟨m, hm⟩ := k0; exact DataW.trod_lt m _ _ _ hm
  obtain ⟨z0, w0⟩ : ∃ zs, IsRow .u8 W a0 len0 cap0 zs := by
    obtain ⟨fuel, hf⟩ := h0
    rcases open_ints Try.underlying28 Try.underlying5 (by kernel_rfl) hf with ⟨hcs, _⟩ | ⟨x, l, c, zs, hcs, _, hl, hm, hz, _, hcell, hwz⟩
    · simp [Value.cells] at hcs
      obtain ⟨rfl, rfl, rfl⟩ := hcs
      exact ⟨[], .inl ⟨rfl, rfl, rfl, rfl⟩⟩
    · simp [Value.cells] at hcs
      obtain ⟨rfl, rfl, rfl⟩ := hcs
      exact ⟨zs, .inr ⟨_, rfl, hl, hm, by simpa using hz, hcell, hwz⟩⟩
  clear hA0 hval0
  refine (walk a0 len0 cap0 z0 W w0).mono fun e W' ⟨he, bel⟩ => ?_
  subst he
  exact ⟨_, rfl, _, _, _, [], _, [], hW', trodAll_mk1 (shut_bool Try.underlying4 _), (trodAll_cons_mk (Below.trod laidOut (by kernel_rfl) (of_decide_eq_true (by kernel_rfl)) k0 bel lt0) trodAll_mk0), rfl, bel.frame _, fun h => by cases h⟩

theorem over : Rows.parityStringsRow.holds Try.pinned (OpenSpec.ofChange Rows.parityStringsSpec) :=
  OpenClaim.holds_of_wide 5 Try.f5 rfl rfl rfl rfl rfl rfl rfl ⟨rfl, rfl, rfl, rfl, rfl⟩ rfl rfl rfl rfl rfl (by kernel_rfl) Try.func5 (by kernel_rfl)
    (of_decide_eq_true (by kernel_rfl)) (by unfold Func.isWrapper; first | (rw [if_pos (by decide +kernel)]; kernel_rfl) | (rw [if_neg (by decide +kernel)]; exact ⟨rfl, rfl⟩))
    (fun os started H enc _ => lifted os started H enc)

/-- ParityStrings returns true for every slice of bytes. -/
theorem proved : Rows.ParityStringsSaid := over
#print axioms proved
end Go.Proofs.Ytmihfgmiphleeaa.parityStrings
