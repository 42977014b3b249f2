/- ParityAdds returns true for every slice of bytes; nothing that was in memory is changed. No conditions. -/
import Derived.Test.YtmihfgmiphleeaaIn
set_option linter.unusedVariables false
namespace Go.Proofs.Ytmihfgmiphleeaa.parityAdds
open Go.ChangeShapes Go.WideShapes Go.ChangeAt Go.RowKit
open Go.ChangeMaps (open_string shut_string)

theorem own : ownKnob Try.prog.godebug = none := by kernel_rfl
theorem laidOut : laidOutB Try.prog = true := by kernel_rfl

theorem reads {ys : List Int} {a0 : Option Addr} {w w1 w2 w3 : World} {v : Value} (hH : Holds .u8 w a0 ys) (hB : Bytes ys) (hbel : Below w.heap.size w w1) (hM : Made addP ys w1 ys.length w2)
    (hD : Both (ys.map addP) w2 (ys.map addP).length v w3) :
    Holds .u8 w3 a0 ys ∧ (∀ i, i < ys.length → w3.cell? ⟨w2.heap.size, i, none⟩ = some (.int .u8 (bits .and .u8 (ys.getD i 0) 127))) ∧ (∃ a cap, v = .slice a 0 cap) ∧ Below w.heap.size w w3 := by
  have hb13 : Below w.heap.size w w3 := (hbel.trans (hM.below.mono hbel.size)).trans (hD.1.below.mono (Nat.le_trans hbel.size hM.below.size))
  refine ⟨hH.later hb13 (Nat.le_refl _), fun i hi => ?_, ?_, hb13⟩
  · have := hD.1.cells i (by simpa using hi)
    rw [Nat.zero_add] at this
    rw [this]
    obtain ⟨z0, z1⟩ := hB i hi
    have e := addP_low _ z0 z1
    simp [hi] at e
    simp [hi, low, e]
  · have ho := hD.2
    rw [bads_none (ys.map addP) (fun i hi => by
      simp only [List.length_map] at hi
      obtain ⟨z0, z1⟩ := hB i hi
      have e := addP_odd _ z0 z1
      simp [hi] at e
      simp [hi, e]) _ (Nat.le_refl _)] at ho
    exact owns_none ho

set_option maxRecDepth 100000 in
set_option maxHeartbeats 800000 in
theorem walk (a0 : Option Addr) (len0 cap0 : Nat) (z0 : List Int) (w : World) (w0 : IsRow .u8 w a0 len0 cap0 z0) :
    Calls Try.prog 6 #[.slice a0 len0 cap0] w fun e w' => e = .returned (.bool true) ∧ Below w.heap.size w w' := by
  obtain ⟨ys, hys, hH, hB, hl, hl2, hl3, hl4⟩ := w0.cut
  have HY := Lib.hid hys
  clear w0 hys
  unfold maxLen at hl4
  go_enter Try.func6, Try.ntmps6
  go_wp2_with (first
    | (go_at_call 8; refine (awake_calls _).mono ?_; rintro e w1 ⟨rfl, hbel⟩))
  all_goals
    refine (encode_at a0 cap0 _ ys _ (by have := HY.out; omega) (hH.later (by assumption) (Nat.le_refl _)) hl hB).mono ?_
    rintro e w2 ⟨rfl, hM⟩
    go_wp2_with fail
    refine (decode_at _ _ _ (ys.map addP) _ (by have := HY.out; simp; omega) hM.holds (by simpa using hl) (hB.map addP_bd)).mono ?_
    rintro e w3 ⟨v, rfl, hD⟩
    obtain ⟨hH3, hq, ⟨va, vc, rfl⟩, hb3⟩ := reads hH hB (by assumption) hM hD
    clear hM hD hH
    go_wp2_with fail
    go_loopw [33] (fun i wr => ∃ k : Nat, k ≤ ys.length ∧ i = .int .i64 k ∧ wr = w3) (fun i _ => ys.length - (intOf i).toNat)
    case atStart => exact ⟨0, by omega, rfl, rfl⟩
    case round =>
      obtain ⟨k, hk, rfl, rfl⟩ := hrel
      by_cases hlt : k < ys.length
      · rcases hH3 with rfl | ⟨b, off, rfl, hbl, hcell⟩
        · simp at hlt
        · have hc := hcell k hlt
          have hc2 := hq k hlt
          obtain ⟨z0, z1⟩ := hB k hlt
          obtain ⟨d0, d1⟩ := addP_bd _ z0 z1
          have ho := addP_odd _ z0 z1
          have he := addP_low _ z0 z1
          generalize ys.getD k 0 = z at *
          clear hcell hq
          have hlt2 : (k : Int) < min len0 300 := by have := HY.out; omega
          go_wp2_with (first
            | (go_at_call 13; refine (add_calls _ _ (by omega) (by omega)).mono ?_; rintro e w' ⟨rfl, rfl⟩)
            | (go_at_call 11; refine (odd_calls _ _ (by omega) (by omega)).mono ?_; rintro e w' ⟨rfl, rfl⟩))
          go_roundw
          case rel => exact ⟨k + 1, by omega, by go_num, by first | rfl | trivial⟩
          case measure => simp [intOf]; omega
      · have hlt2 : (min len0 300 : Int) ≤ k := by have := HY.out; omega
        go_wp2_with fail
        go_ret
        exact ⟨rfl, hb3⟩

set_option maxRecDepth 100000 in
theorem lifted (os : Os) (started : os.Started) (H : Type) (enc : TypeId × Value → H) :
    ReturnsInHanded {} Try.checked os 6 .any (Rows.parityAddsSpec.pre6 enc Try.prog Try.f6 Rows.parityAddsRow.domain false) (Rows.parityAddsSpec.post enc Try.prog Try.f6 false true false false) := by
  refine returnsInHanded_of_change (C := Try.checked) own started (by kernel_rfl) Try.func6
    (ChangeSpec.witness6 (enc := enc) (C := Try.checked) false ⟨#[], #[.slice none 0 0], []⟩ 8 (by kernel_rfl) (by kernel_rfl) (by kernel_rfl) (by kernel_rfl)) ?_
  intro W base args ds gs before hval0 hW hcnd _
  have hval : ∀ (j : Nat) t v, Try.f6.params[j]? = some t → args[j]? = some v → Value.okWide Try.prog W .any base t v := hval0
  have hW' := hW
  obtain ⟨p, q, hA0, hV, rfl, hfz, hnd⟩ := hW
  have hA : DataW.TrodAll enc Try.prog W 0 (fun _ => true) true Try.f6.params.toList args.toList ds p := hA0
  rw [Try.params6] at hA hval
  obtain ⟨v0, vs0, d0, ds0, p0, q0, hargs, rfl, rfl, h0, r0⟩ := trodAll_cons hA
  obtain ⟨rfl, rfl, rfl⟩ := trodAll_nil r0
  obtain rfl : args = #[v0] := by cases args; simp_all
  obtain ⟨rfl, rfl⟩ := trodVars_none hV
  obtain ⟨a0, len0, cap0, rfl⟩ := okWide_slice Try.underlying28 (hval 0 28 v0 rfl rfl)
  have k0 := h0
  have lt0 : ∀ x ∈ p0, x.block < W.heap.size := by obtain ⟨m, hm⟩ := k0; exact DataW.trod_lt m _ _ _ hm
  obtain ⟨z0, w0⟩ : ∃ zs, IsRow .u8 W a0 len0 cap0 zs := by
    obtain ⟨fuel, hf⟩ := h0
    rcases open_ints Try.underlying28 Try.underlying5 (by kernel_rfl) hf with ⟨hcs, _⟩ | ⟨x, l, c, zs, hcs, _, hl, hm, hz, _, hcell, hwz⟩
    · simp [Value.cells] at hcs
      obtain ⟨rfl, rfl, rfl⟩ := hcs
      exact ⟨[], .inl ⟨rfl, rfl, rfl, rfl⟩⟩
    · simp [Value.cells] at hcs
      obtain ⟨rfl, rfl, rfl⟩ := hcs
      exact ⟨zs, .inr ⟨_, rfl, hl, hm, by simpa using hz, hcell, hwz⟩⟩
  clear hA0 hval0
  refine (walk a0 len0 cap0 z0 W w0).mono fun e W' ⟨he, bel⟩ => ?_
  subst he
  exact ⟨_, rfl, _, _, _, [], _, [], hW', trodAll_mk1 (shut_bool Try.underlying4 _), (trodAll_cons_mk (Below.trod laidOut (by kernel_rfl) (of_decide_eq_true (by kernel_rfl)) k0 bel lt0) trodAll_mk0), rfl, bel.frame _, fun h => by cases h⟩

theorem over : Rows.parityAddsRow.holds Try.pinned (OpenSpec.ofChange Rows.parityAddsSpec) :=
  OpenClaim.holds_of_wide 6 Try.f6 rfl rfl rfl rfl rfl rfl rfl ⟨rfl, rfl, rfl, rfl, rfl⟩ rfl rfl rfl rfl rfl (by kernel_rfl) Try.func6 (by kernel_rfl)
    (of_decide_eq_true (by kernel_rfl)) (by unfold Func.isWrapper; first | (rw [if_pos (by decide +kernel)]; kernel_rfl) | (rw [if_neg (by decide +kernel)]; exact ⟨rfl, rfl⟩))
    (fun os started H enc _ => lifted os started H enc)

/-- ParityAdds returns true for every slice of bytes. -/
theorem proved : Rows.ParityAddsSaid := over
#print axioms proved
end Go.Proofs.Ytmihfgmiphleeaa.parityAdds
