/- The contracts of the reference's Encode and Decode, and of the law's ints: what they return. -/
import Derived.Test.YtmihfgmiphleeaaIn
import Derived.Deep.QuietTactic
import Derived.BigQuiet
set_option linter.unusedVariables false
namespace Go.Proofs.Ytmihfgmiphleeaa
open Go.ChangeShapes Go.WideShapes Go.ChangeAt Go.RowKit

theorem Holds.of_owns {k : IntKind} {w : World} {base e : Nat} {v : Value} {zs : List Int} (h : w.ownsRow base e 1 v zs.length (zs.map (Value.int k))) :
    ∃ a cap, v = .slice a zs.length cap ∧ Holds k w a zs := by
  have h' := h
  rcases h.2 with ⟨rfl, h0⟩ | ⟨g, cap, cur, rfl, hb, hg, _⟩
  · exact ⟨none, 0, by rw [h0], .inl (by cases zs <;> simp_all)⟩
  · refine ⟨_, cap, rfl, .inr ⟨g, 0, rfl, (Array.getElem?_eq_some_iff.1 hg).1, fun i hi => ?_⟩⟩
    rw [Nat.zero_add, h'.cellAt i (by omega)]
    simp [hi]

/-- f of the first k numbers. -/
def upTo (f : Int → Int) (zs : List Int) : Nat → List Int
  | 0 => []
  | k + 1 => upTo f zs k ++ [f (zs.getD k 0)]

theorem upTo_length (f : Int → Int) (zs : List Int) : ∀ k, (upTo f zs k).length = k
  | 0 => rfl
  | k + 1 => by simp [upTo, upTo_length f zs k]

theorem upTo_take (f : Int → Int) (zs : List Int) : ∀ k, k ≤ zs.length → upTo f zs k = (zs.take k).map f
  | 0, _ => by simp [upTo]
  | k + 1, h => by
    rw [upTo, upTo_take f zs k (by omega), List.take_succ_eq_append_getElem (by omega), List.map_append]
    simp [show k < zs.length by omega]

theorem upTo_all (f : Int → Int) (zs : List Int) : upTo f zs zs.length = zs.map f := by
  rw [upTo_take f zs _ (Nat.le_refl _), List.take_length]

/-- The relation of the reference's Encode. -/
def Grows (f : Int → Int) (zs : List Int) (w : World) (k : Nat) (v : Value) (wr : World) : Prop :=
  wr.ownsRow w.heap.size 5 1 v (upTo f zs k).length ((upTo f zs k).map (Value.int .u8)) ∧ Below w.heap.size w wr

theorem Grows.step {f : Int → Int} {zs : List Int} {w wr w2 : World} {k : Nat} {z : Int} {v v' : Value} {o : Obj} (h : Grows f zs w k v wr) (hz : zs.getD k 0 = z)
    (hown : w2.ownsRow w.heap.size 5 1 v' ((upTo f zs k).length + 1) ((upTo f zs k).map (Value.int .u8) ++ [Value.int .u8 (f z)]))
    (hg : (wr.alloc o).grownBy w2 v.ownBlock) : Grows f zs w (k + 1) v' w2 := by
  refine ⟨?_, (h.2.alloc h.2.size o).grown hg (by have := h.2.size; simp; omega) (fun j hj => (h.1.lt j hj).1)⟩
  subst hz
  simpa [upTo] using hown

set_option maxHeartbeats 400000 in
theorem refEncode_calls (a : Option Addr) (cap : Nat) (zs : List Int) (w : World) (h : Holds .u8 w a zs) (hlen : zs.length ≤ 300) (hb : Bytes zs) :
    Calls Try.prog 18 #[.slice a zs.length cap] w fun e w' => ∃ v, e = .returned v ∧ Grows addP zs w zs.length v w' := by
  obtain ⟨i0, hi, hz0, hz1, hz2⟩ := info_parts Try.info5
  have HI := Lib.hid hi; have H0 := Lib.hid hz0; have H1 := Lib.hid hz1; have H2 := Lib.hid hz2
  clear hi hz0 hz1 hz2
  go_enter Try.func18, Try.ntmps18
  go_wp2
  go_loopw [3, 8] (fun v i wr => ∃ k : Nat, k ≤ zs.length ∧ i = .int .i64 k ∧ Grows addP zs w k v wr) (fun _ i _ => zs.length - (intOf i).toNat)
  case atStart => exact ⟨0, by omega, rfl, World.ownsRow_nil _ _ _ _, Below.refl _ _⟩
  case round =>
    obtain ⟨k, hk, rfl, hG⟩ := hrel
    by_cases hlt : k < zs.length
    · rcases h with rfl | ⟨b, off, rfl, hbl, hcell⟩
      · simp at hlt
      · have hc := (hG.2.cell (p := ⟨b, off + k, none⟩) hbl).trans (hcell k hlt)
        obtain ⟨z0, z1⟩ := hb k hlt
        generalize hz : zs.getD k 0 = z at *
        have HZ := Lib.hid hz
        clear hcell hz
        have hlk : (upTo addP zs k).length ≤ 300 := by rw [upTo_length]; omega
        go_wp2_with (first
          | (go_at_call 14; refine (refAdd_calls _ _ (by omega) (by omega)).mono ?_; rintro e w' ⟨rfl, rfl⟩)
          | (at_builtin; refine wpList_append_own _ rfl _ _ 28 rfl w.heap.size 5 i0 (.int .u8 0) 1 1 Try.underlying28 HI.out H0.out H1.out H2.out rfl (by decide) _ _ _ rfl (hG.1.alloc _) ⟨wr.heap.size, 0, none⟩ 1 1 [.int .u8 (addP z)] rfl rfl ?c1 ?c2 ?c3 ?c4 ?c5 ?_))
        case c1 => exact cell_one_new _ _ _
        case c2 => intro u hu; simp at hu; subst hu; rfl
        case c3 => unfold maxLen; omega
        case c4 => omega
        case c5 => have := hG.2.size; simp; omega
        intro v' w2 hown' hgrow _
        have R := hG.step HZ.out hown' hgrow
        clear hown' hgrow hG
        go_wp2
        go_roundw
        case rel => exact ⟨k + 1, by omega, by go_num, R⟩
        case measure => simp [intOf]; omega
    · obtain rfl : k = zs.length := by omega
      go_wp2
      go_ret
      exact ⟨_, rfl, hG⟩

theorem ints_same (a b : Option Addr) (n ca cb : Nat) (zs : List Int) (w : World) (hn : zs.length = n) (ha : Holds .i64 w a zs) (hb : Holds .i64 w b zs) (hl : zs.length ≤ 300) :
    Calls Try.prog 19 #[.slice a n ca, .slice b n cb] w fun e w' => e = .returned (.bool true) ∧ Below w.heap.size w w' := by
  subst hn
  go_enter Try.func19, Try.ntmps19
  go_wp2
  go_loopw [13] (fun i wr => ∃ k : Nat, k ≤ zs.length ∧ i = .int .i64 k ∧ Below w.heap.size w wr) (fun i _ => zs.length - (intOf i).toNat)
  case atStart => exact ⟨0, by omega, rfl, Below.refl _ _⟩
  case round =>
    obtain ⟨k, hk, rfl, hB⟩ := hrel
    by_cases hlt : k < zs.length
    · rcases ha with rfl | ⟨p, off, rfl, hpl, hpc⟩
      · simp at hlt
      · rcases hb with rfl | ⟨q, off2, rfl, hql, hqc⟩
        · simp at hlt
        · have c1 := (hB.cell (p := ⟨p, off + k, none⟩) hpl).trans (hpc k hlt)
          have c2 := (hB.cell (p := ⟨q, off2 + k, none⟩) hql).trans (hqc k hlt)
          have hlt2 : (k : Int) < (zs.length : Int) := by omega
          have hk0 : (0 : Int) ≤ k := by omega
          generalize zs.getD k 0 = z at *
          clear hpc hqc
          go_wp2
          go_quiet (fail)
          go_wp2
          go_roundw
          case rel => exact ⟨k + 1, by omega, by go_num, by first | exact hB.drew | exact below_drewN hB _⟩
          case measure => simp [intOf]; omega
    · obtain rfl : k = zs.length := by omega
      go_wp2
      go_ret
      exact ⟨rfl, hB⟩

end Go.Proofs.Ytmihfgmiphleeaa
