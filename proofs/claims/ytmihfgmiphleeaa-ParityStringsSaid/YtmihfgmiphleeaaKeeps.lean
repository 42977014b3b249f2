/- ParityKeeps returns true for every slice of bytes; nothing that was in memory is changed. No conditions. -/
import Derived.Test.YtmihfgmiphleeaaIn
set_option linter.unusedVariables false
namespace Go.Proofs.Ytmihfgmiphleeaa
open Go.RowKit

/-- string(p) for a slice of bytes. -/
theorem run_text {w : World} {a : Option Addr} {n cap : Nat} {zs : List Int} (h : Holds .u8 w a zs) (hn : zs.length = n) :
    (convert 28 9 (.slice a n cap)).run Try.prog w = .ok (.string (strOfNums zs)) w := by
  subst hn
  rcases h with rfl | ⟨b, off, rfl, hbl, hc⟩
  · cases a with
    | none => exact run_convert_bytes_nil (P := Try.prog) w 28 5 Try.underlying28 Try.underlying5 0 cap 9 Try.underlying9
    | some x =>
      rw [run_convert_bytes_string w 28 9 5 _ _ cap Try.underlying28 Try.underlying5 Try.underlying9]
      have hl := run_loadCells_list (P := Try.prog) w x (([] : List Int).map (Value.int .u8)) (fun j v hj => by simp at hj)
      exact run_bytesToString w x 0 cap [] hl
  · exact run_convert_bytes_arg (P := Try.prog) w 28 5 Try.underlying28 Try.underlying5 b off _ cap zs rfl hc 9 Try.underlying9

/-- A row of n bytes in a block of the call's own. -/
def OwnBytes (base g n : Nat) (wr : World) : Prop :=
  ∃ zs : List Int, zs.length = n ∧ wr.ownsRow base 5 1 (.slice (some ⟨g, 0, none⟩) n n) n (zs.map (Value.int .u8))

theorem OwnBytes.cell {base g n : Nat} {wr : World} (h : OwnBytes base g n wr) (k : Nat) (hk : k < n) :
    (∃ z, wr.cell? ⟨g, k, none⟩ = some (.int .u8 z)) ∧ wr.frozen? ⟨g, k, none⟩ = false := by
  obtain ⟨zs, hl, ho⟩ := h
  refine ⟨⟨zs.getD k 0, ?_⟩, ho.frozenAt k⟩
  rw [ho.cellAt k (by omega)]
  simp [show k < zs.length by omega]

theorem OwnBytes.stored {base g n : Nat} {wr : World} (h : OwnBytes base g n wr) (k : Nat) (z : Int) : OwnBytes base g n (wr.setCell ⟨g, k, none⟩ (.int .u8 z)) := by
  obtain ⟨zs, hl, ho⟩ := h
  refine ⟨zs.set k z, by simpa using hl, ?_⟩
  have := (ho.stored k (.int .u8 z)).1
  rw [List.map_set]
  exact this

theorem OwnBytes.other {base g n : Nat} {wr : World} (h : OwnBytes base g n wr) (g' k : Nat) (v : Value) (hne : g' ≠ g) : OwnBytes base g n (wr.setCell ⟨g', k, none⟩ v) := by
  obtain ⟨zs, hl, ho⟩ := h
  refine ⟨zs, hl, ho.kept (row := some g') ⟨rfl, rfl, rfl, by simp, fun j _ hj => heap_setCell_other wr ⟨g', k, none⟩ j v (fun e => hj (by simp [e]))⟩ (.inr fun e => hne ?_)⟩
  simpa [Value.ownBlock] using e.symm

theorem Made.ownBytes {f : Int → Int} {zs : List Int} {w wr : World} (h : Made f zs w zs.length wr) : OwnBytes w.heap.size w.heap.size zs.length wr := by
  obtain ⟨xs, ho, hp, hb⟩ := h
  exact ⟨zs.map f, by simp, by rw [← hp.all]; exact ho⟩

theorem OwnBytes.later {base g n B : Nat} {wr w' : World} (h : OwnBytes base g n wr) (hb : Below B wr w') (hg : g < B) : OwnBytes base g n w' := by
  obtain ⟨zs, hl, ho⟩ := h
  refine ⟨zs, hl, ho.1, ?_⟩
  rcases ho.2 with hn | ⟨g', cap, cur, e, hbase, hgg, rest⟩
  · exact .inl hn
  · refine .inr ⟨g', cap, cur, e, hbase, ?_, rest⟩
    simp only [Value.slice.injEq, Option.some.injEq, Addr.mk.injEq, and_true, true_and] at e
    rw [hb.block g' (by omega)]
    exact hgg

end Go.Proofs.Ytmihfgmiphleeaa
namespace Go.Proofs.Ytmihfgmiphleeaa.parityKeeps
open Go.ChangeShapes Go.WideShapes Go.ChangeAt Go.RowKit
open Go.ChangeMaps (open_string shut_string)

theorem own : ownKnob Try.prog.godebug = none := by kernel_rfl
theorem laidOut : laidOutB Try.prog = true := by kernel_rfl

/-- The loop's memory: the two results' rows; all that was there is as it was. -/
def Two (w w1 w2 : World) (n : Nat) (wr : World) : Prop :=
  OwnBytes w1.heap.size w1.heap.size n wr ∧ OwnBytes w2.heap.size w2.heap.size n wr ∧ Below w.heap.size w wr

theorem Two.start {ys : List Int} {w w1 w2 w3 : World} {v : Value} (hbel : Below w.heap.size w w1) (hM : Made addP ys w1 ys.length w2) (hD : Both ys w2 ys.length v w3) :
    Two w w1 w2 ys.length w3 :=
  ⟨hM.ownBytes.later hD.1.below (by have := hM.size; omega), hD.1.ownBytes, (hbel.trans (hM.below.mono hbel.size)).trans (hD.1.below.mono (Nat.le_trans hbel.size hM.below.size))⟩

theorem Two.step {w w1 w2 wr : World} {n : Nat} (h : Two w w1 w2 n wr) (h1 : w.heap.size ≤ w1.heap.size) (h2 : w1.heap.size < w2.heap.size) (k : Nat) (x y : Int) :
    Two w w1 w2 n ((wr.setCell ⟨w1.heap.size, k, none⟩ (.int .u8 x)).setCell ⟨w2.heap.size, k, none⟩ (.int .u8 y)) :=
  ⟨(h.1.stored k x).other _ _ _ (by omega), (h.2.1.other _ _ _ (by omega)).stored k y, (h.2.2.setCell (by simpa using h1) _).setCell (by simp; omega) _⟩

set_option maxRecDepth 100000 in
set_option maxHeartbeats 800000 in
theorem walk (a0 : Option Addr) (len0 cap0 : Nat) (z0 : List Int) (w : World) (w0 : IsRow .u8 w a0 len0 cap0 z0) :
    Calls Try.prog 7 #[.slice a0 len0 cap0] w fun e w' => e = .returned (.bool true) ∧ Below w.heap.size w w' := by
  obtain ⟨ys, hys, hH, hB, hl, hl2, hl3, hl4⟩ := w0.cut
  have HY := Lib.hid hys
  have HT := Lib.hid (fun (w' : World) (hb : Below w.heap.size w w') (n : Nat) (hn : ys.length = n) => run_text (cap := cap0) (hH.later hb (Nat.le_refl _)) hn)
  clear w0 hys
  unfold maxLen at hl4
  go_enter Try.func7, Try.ntmps7
  by_cases h300 : len0 ≤ 300
  case' pos => have hn := Lib.hid (show ys.length = len0 by have := HY.out; omega)
  case' neg => have hn := Lib.hid (show ys.length = 300 by have := HY.out; omega)
  all_goals
    go_wp2_with (first
      | (go_at_call 8; refine (awake_calls _).mono ?_; rintro e w1 ⟨rfl, hbel⟩; have ht := HT.out _ hbel _ hn.out))
    refine (encode_at a0 cap0 _ ys _ hn.out (hH.later (by assumption) (Nat.le_refl _)) hl hB).mono ?_
    rintro e w2 ⟨rfl, hM⟩
    have hb1 := hbel
    have hb2 : Below w.heap.size w w2 := hb1.trans (hM.below.mono hb1.size)
    have hs2 := hM.size
    have hs1 := hb1.size
    go_wp2_with fail
    refine (decode_at a0 cap0 _ ys _ hn.out (hH.later hb2 (Nat.le_refl _)) hl hB).mono ?_
    rintro e w3 ⟨v, rfl, hD⟩
    have hT := Two.start hb1 hM hD
    clear hM hD hH
    go_wp2_with fail
    go_loopw [26] (fun i wr => ∃ k : Nat, k ≤ ys.length ∧ i = .int .i64 k ∧ Two w w1 w2 ys.length wr) (fun i _ => ys.length - (intOf i).toNat)
    case atStart => exact ⟨0, by omega, rfl, hT⟩
    case round =>
      obtain ⟨k, hk, rfl, hT⟩ := hrel
      by_cases hlt : k < ys.length
      · obtain ⟨⟨x, hx⟩, hxf⟩ := hT.1.cell k hlt
        obtain ⟨⟨y, hy⟩, hyf⟩ := hT.2.1.cell k hlt
        have hS := fun x y => hT.step hs1 hs2 k x y
        have HS := Lib.hid hS
        have hlt2 : (k : Int) < min len0 300 := by have := HY.out; omega
        clear hT hS
        go_wp2_with fail
        go_roundw
        case rel => exact ⟨k + 1, by omega, by go_num, HS.out _ _⟩
        case measure => simp [intOf]; omega
      · have hlt2 : (min len0 300 : Int) ≤ k := by have := HY.out; omega
        have ht := HT.out _ hT.2.2 _ hn.out
        go_wp2_with fail
        go_ret
        exact ⟨rfl, hT.2.2⟩

set_option maxRecDepth 100000 in
theorem lifted (os : Os) (started : os.Started) (H : Type) (enc : TypeId × Value → H) :
    ReturnsInHanded {} Try.checked os 7 .any (Rows.parityKeepsSpec.pre6 enc Try.prog Try.f7 Rows.parityKeepsRow.domain false) (Rows.parityKeepsSpec.post enc Try.prog Try.f7 false true false false) := by
  refine returnsInHanded_of_change (C := Try.checked) own started (by kernel_rfl) Try.func7
    (ChangeSpec.witness6 (enc := enc) (C := Try.checked) false ⟨#[], #[.slice none 0 0], []⟩ 8 (by kernel_rfl) (by kernel_rfl) (by kernel_rfl) (by kernel_rfl)) ?_
  intro W base args ds gs before hval0 hW hcnd _
  have hval : ∀ (j : Nat) t v, Try.f7.params[j]? = some t → args[j]? = some v → Value.okWide Try.prog W .any base t v := hval0
  have hW' := hW
  obtain ⟨p, q, hA0, hV, rfl, hfz, hnd⟩ := hW
  have hA : DataW.TrodAll enc Try.prog W 0 (fun _ => true) true Try.f7.params.toList args.toList ds p := hA0
  rw [Try.params7] at hA hval
  obtain ⟨v0, vs0, d0, ds0, p0, q0, hargs, rfl, rfl, h0, r0⟩ := trodAll_cons hA
  obtain ⟨rfl, rfl, rfl⟩ := trodAll_nil r0
  obtain rfl : args = #[v0] := by cases args; simp_all
  obtain ⟨rfl, rfl⟩ := trodVars_none hV
  obtain ⟨a0, len0, cap0, rfl⟩ := okWide_slice Try.underlying28 (hval 0 28 v0 rfl rfl)
  have k0 := h0
  have lt0 : ∀ x ∈ p0, x.block < W.heap.size := by obtain ⟨m, hm⟩ := k0; exact DataW.trod_lt m _ _ _ hm
  obtain ⟨z0, w0⟩ : ∃ zs, IsRow .u8 W a0 len0 cap0 zs := by
    obtain ⟨fuel, hf⟩ := h0
    rcases open_ints Try.underlying28 Try.underlying5 (by kernel_rfl) hf with ⟨hcs, _⟩ | ⟨x, l, c, zs, hcs, _, hl, hm, hz, _, hcell, hwz⟩
    · simp [Value.cells] at hcs
      obtain ⟨rfl, rfl, rfl⟩ := hcs
      exact ⟨[], .inl ⟨rfl, rfl, rfl, rfl⟩⟩
    · simp [Value.cells] at hcs
      obtain ⟨rfl, rfl, rfl⟩ := hcs
      exact ⟨zs, .inr ⟨_, rfl, hl, hm, by simpa using hz, hcell, hwz⟩⟩
  clear hA0 hval0
  refine (walk a0 len0 cap0 z0 W w0).mono fun e W' ⟨he, bel⟩ => ?_
  subst he
  exact ⟨_, rfl, _, _, _, [], _, [], hW', trodAll_mk1 (shut_bool Try.underlying4 _), (trodAll_cons_mk (Below.trod laidOut (by kernel_rfl) (of_decide_eq_true (by kernel_rfl)) k0 bel lt0) trodAll_mk0), rfl, bel.frame _, fun h => by cases h⟩

theorem over : Rows.parityKeepsRow.holds Try.pinned (OpenSpec.ofChange Rows.parityKeepsSpec) :=
  OpenClaim.holds_of_wide 7 Try.f7 rfl rfl rfl rfl rfl rfl rfl ⟨rfl, rfl, rfl, rfl, rfl⟩ rfl rfl rfl rfl rfl (by kernel_rfl) Try.func7 (by kernel_rfl)
    (of_decide_eq_true (by kernel_rfl)) (by unfold Func.isWrapper; first | (rw [if_pos (by decide +kernel)]; kernel_rfl) | (rw [if_neg (by decide +kernel)]; exact ⟨rfl, rfl⟩))
    (fun os started H enc _ => lifted os started H enc)

/-- ParityKeeps returns true for every slice of bytes. -/
theorem proved : Rows.ParityKeepsSaid := over
#print axioms proved
end Go.Proofs.Ytmihfgmiphleeaa.parityKeeps
