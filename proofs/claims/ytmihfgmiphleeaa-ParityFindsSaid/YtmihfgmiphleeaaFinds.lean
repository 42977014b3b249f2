/- ParityFinds returns true for every three bytes; nothing that was in memory is changed. No conditions. -/
import Derived.Test.YtmihfgmiphleeaaAwake
import Derived.ChangeOld
import Derived.Below
set_option linter.unusedVariables false
namespace Go.Proofs.Ytmihfgmiphleeaa.parityFinds
open Go.ChangeShapes Go.WideShapes Go.ChangeAt Go.RowKit
open Go.ChangeMaps (open_string shut_string)

theorem own : ownKnob Try.prog.godebug = none := by kernel_rfl
theorem laidOut : laidOutB Try.prog = true := by kernel_rfl

theorem flip_all : ∀ n : Fin 256, ∀ i : Fin 8, 0 ≤ bits .xor .u8 (n.val : Int) (2 ^ i.val % 256) ∧ bits .xor .u8 (n.val : Int) (2 ^ i.val % 256) ≤ 255 ∧ odd (bits .xor .u8 (n.val : Int) (2 ^ i.val % 256)) = !odd (n.val : Int) := by decide +kernel
theorem flipBit (x i : Int) (h0 : 0 ≤ x) (h1 : x ≤ 255) (k0 : 0 ≤ i) :
    0 ≤ bits .xor .u8 x (2 ^ (i % 8).toNat % 256) ∧ bits .xor .u8 x (2 ^ (i % 8).toNat % 256) ≤ 255 ∧ odd (bits .xor .u8 x (2 ^ (i % 8).toNat % 256)) = !odd x := by
  have := flip_all ⟨x.toNat, by omega⟩ ⟨i.toNat % 8, by omega⟩
  simp only [Int.toNat_of_nonneg h0] at this
  have e : (i % 8).toNat = i.toNat % 8 := by omega
  rw [e]
  exact this
theorem addP_odd (x : Int) (h0 : 0 ≤ x) (h1 : x ≤ 255) : odd (addP x) = true :=
  byte_all (p := fun x => odd (addP x) = true) (by decide +kernel) x h0 h1

theorem walk (a0 a1 a2 : Int) (w0 : (Lit.int .u8 a0).wf = true) (w1 : (Lit.int .u8 a1).wf = true) (w2 : (Lit.int .u8 a2).wf = true) (w : World) :
    Calls Try.prog 4 #[.int .u8 a0, .int .u8 a1, .int .u8 a2] w fun e w' => e = .returned (.bool true) ∧ Below w.heap.size w w' := by
  obtain ⟨h0, h1⟩ := bounds_u8 w0
  obtain ⟨g0, g1⟩ := bounds_u8 w1
  obtain ⟨k0, k1⟩ := bounds_u8 w2
  obtain ⟨d0, d1⟩ := addP_bd a0 h0 h1
  obtain ⟨x0, x1, xo⟩ := flipBit (addP a0) a1 d0 d1 g0
  obtain ⟨y0, y1, yo⟩ := flipBit _ a2 x0 x1 k0
  rw [addP_odd a0 h0 h1] at xo
  rw [xo] at yo
  clear w0 w1 w2
  go_enter Try.func4, Try.ntmps4
  go_wp2_with (first
    | (go_at_call 8; refine (awake_calls _).mono ?_; rintro e w' ⟨rfl, hbel⟩)
    | (go_at_call 13; refine (add_calls _ _ (by omega) (by omega)).mono ?_; rintro e w' ⟨rfl, rfl⟩))
  refine (strip_calls _ _ x0 x1).mono ?_
  rintro e w1 ⟨rfl, rfl⟩
  go_wp2_with fail
  refine (strip_calls _ _ y0 y1).mono ?_
  rintro e w2 ⟨rfl, rfl⟩
  go_wp2_with fail
  go_ret
  exact ⟨rfl, by assumption⟩

set_option maxRecDepth 100000 in
theorem lifted (os : Os) (started : os.Started) (H : Type) (enc : TypeId × Value → H) :
    ReturnsInHanded {} Try.checked os 4 .any (Rows.parityFindsSpec.pre6 enc Try.prog Try.f4 Rows.parityFindsRow.domain false) (Rows.parityFindsSpec.post enc Try.prog Try.f4 false true false false) := by
  refine returnsInHanded_of_change (C := Try.checked) own started (by kernel_rfl) Try.func4
    (ChangeSpec.witness6 (enc := enc) (C := Try.checked) false ⟨#[], #[.int .u8 0, .int .u8 0, .int .u8 0], []⟩ 8 (by kernel_rfl) (by kernel_rfl) (by kernel_rfl) (by kernel_rfl)) ?_
  intro W base args ds gs before hval0 hW hcnd _
  have hval : ∀ (j : Nat) t v, Try.f4.params[j]? = some t → args[j]? = some v → Value.okWide Try.prog W .any base t v := hval0
  have hW' := hW
  obtain ⟨p, q, hA0, hV, rfl, hfz, hnd⟩ := hW
  have hA : DataW.TrodAll enc Try.prog W 0 (fun _ => true) true Try.f4.params.toList args.toList ds p := hA0
  rw [Try.params4] at hA hval
  obtain ⟨v0, vs0, d0, ds0, p0, q0, hargs, rfl, rfl, h0, r0⟩ := trodAll_cons hA
  obtain ⟨v1, vs1, d1, ds1, p1, q1, rfl, rfl, rfl, h1, r1⟩ := trodAll_cons r0
  obtain ⟨v2, vs2, d2, ds2, p2, q2, rfl, rfl, rfl, h2, r2⟩ := trodAll_cons r1
  obtain ⟨rfl, rfl, rfl⟩ := trodAll_nil r2
  obtain rfl : args = #[v0, v1, v2] := by cases args; simp_all
  obtain ⟨rfl, rfl⟩ := trodVars_none hV
  obtain ⟨a0, rfl, rfl, rfl, w0⟩ := open_int Try.underlying5 (hval 0 5 v0 rfl rfl) h0
  obtain ⟨a1, rfl, rfl, rfl, w1⟩ := open_int Try.underlying5 (hval 1 5 v1 rfl rfl) h1
  obtain ⟨a2, rfl, rfl, rfl, w2⟩ := open_int Try.underlying5 (hval 2 5 v2 rfl rfl) h2
  clear hA0 hval0
  refine (walk a0 a1 a2 w0 w1 w2 W).mono fun e W' ⟨he, bel⟩ => ?_
  subst he
  exact ⟨_, rfl, _, _, _, [], _, [], hW', trodAll_mk1 (shut_bool Try.underlying4 _), (trodAll_cons_mk (shut_int Try.underlying5 w0) (trodAll_cons_mk (shut_int Try.underlying5 w1) (trodAll_cons_mk (shut_int Try.underlying5 w2) trodAll_mk0))), rfl, bel.frame _, fun h => by cases h⟩

theorem over : Rows.parityFindsRow.holds Try.pinned (OpenSpec.ofChange Rows.parityFindsSpec) :=
  OpenClaim.holds_of_wide 4 Try.f4 rfl rfl rfl rfl rfl rfl rfl ⟨rfl, rfl, rfl, rfl, rfl⟩ rfl rfl rfl rfl rfl (by kernel_rfl) Try.func4 (by kernel_rfl)
    (of_decide_eq_true (by kernel_rfl)) (by unfold Func.isWrapper; first | (rw [if_pos (by decide +kernel)]; kernel_rfl) | (rw [if_neg (by decide +kernel)]; exact ⟨rfl, rfl⟩))
    (fun os started H enc _ => lifted os started H enc)

/-- ParityFinds returns true for every three bytes. -/
theorem proved : Rows.ParityFindsSaid := over
#print axioms proved
end Go.Proofs.Ytmihfgmiphleeaa.parityFinds
