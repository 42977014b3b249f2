/- The contract of the reference's Decode. -/
import Derived.Test.YtmihfgmiphleeaaRef
set_option linter.unusedVariables false
namespace Go.Proofs.Ytmihfgmiphleeaa
open Go.ChangeShapes Go.WideShapes Go.ChangeAt Go.RowKit

/-- The relation of the reference's Decode: the row of bytes, the row of places. -/
def TwoRows (zs : List Int) (w : World) (k j : Nat) (v u : Value) (wr : World) : Prop :=
  wr.ownsRow w.heap.size 5 1 v (upTo low zs k).length ((upTo low zs k).map (Value.int .u8)) ∧ wr.ownsRow w.heap.size 3 1 u (bads zs j).length ((bads zs j).map (Value.int .i64)) ∧ Below w.heap.size w wr

/-- Rows of two element types do not share a block. -/
theorem rows_apart {w : World} {b b' e e' s s' n n' : Nat} {v u : Value} {xs ys : List Value} (h : w.ownsRow b e s v n xs) (h' : w.ownsRow b' e' s' u n' ys) (hne : e ≠ e') : v.ownBlock = none ∨ v.ownBlock ≠ u.ownBlock := by
  rcases h.2 with ⟨rfl, _⟩ | ⟨g, cap, cur, rfl, _, hg, _⟩
  · exact .inl rfl
  · rcases h'.2 with ⟨rfl, _⟩ | ⟨g', cap', cur', rfl, _, hg', _⟩
    · exact .inr (by simp [Value.ownBlock])
    · refine .inr fun he => hne ?_
      simp only [Value.ownBlock, Option.some.injEq] at he
      subst he
      rw [hg] at hg'
      simp at hg'
      exact hg'.2

theorem TwoRows.byte {zs : List Int} {w wr w2 : World} {k j : Nat} {z : Int} {v v' u : Value} {o : Obj} (h : TwoRows zs w k j v u wr) (hz : zs.getD k 0 = z)
    (hown : w2.ownsRow w.heap.size 5 1 v' ((upTo low zs k).length + 1) ((upTo low zs k).map (Value.int .u8) ++ [Value.int .u8 (low z)]))
    (hg : (wr.alloc o).grownBy w2 v.ownBlock) : TwoRows zs w (k + 1) j v' u w2 := by
  refine ⟨?_, ?_, (h.2.2.alloc h.2.2.size o).grown hg (by have := h.2.2.size; simp; omega) (fun j hj => (h.1.lt j hj).1)⟩
  · subst hz
    simpa [upTo] using hown
  · exact (h.2.1.alloc o).kept hg (rows_apart h.2.1 h.1 (by decide))

theorem TwoRows.place {zs : List Int} {w wr w2 : World} {k : Nat} {v u u' : Value} {o : Obj} (h : TwoRows zs w (k + 1) k v u wr) (hod : odd (zs.getD k 0) = false)
    (hown : w2.ownsRow w.heap.size 3 1 u' ((bads zs k).length + 1) ((bads zs k).map (Value.int .i64) ++ [Value.int .i64 k]))
    (hg : (wr.alloc o).grownBy w2 u.ownBlock) : TwoRows zs w (k + 1) (k + 1) v u' w2 := by
  refine ⟨?_, ?_, (h.2.2.alloc h.2.2.size o).grown hg (by have := h.2.2.size; simp; omega) (fun j hj => (h.2.1.lt j hj).1)⟩
  · exact (h.1.alloc o).kept hg (rows_apart h.1 h.2.1 (by decide))
  · rw [bads_even zs k hod]
    simpa using hown

theorem TwoRows.odd {zs : List Int} {w wr : World} {k : Nat} {v u : Value} (h : TwoRows zs w (k + 1) k v u wr) (hod : odd (zs.getD k 0) = true) : TwoRows zs w (k + 1) (k + 1) v u wr := by
  refine ⟨h.1, ?_, h.2.2⟩
  rw [bads_odd zs k hod]
  exact h.2.1

set_option maxHeartbeats 400000 in
theorem refDecode_calls (a : Option Addr) (cap : Nat) (zs : List Int) (w : World) (h : Holds .u8 w a zs) (hlen : zs.length ≤ 300) (hb : Bytes zs) :
    Calls Try.prog 16 #[.slice a zs.length cap] w fun e w' => ∃ v u, e = .returned (.tuple #[v, u]) ∧ TwoRows zs w zs.length zs.length v u w' := by
  obtain ⟨i0, hi, hz0, hz1, hz2⟩ := info_parts Try.info5
  have HI := Lib.hid hi; have H0 := Lib.hid hz0; have H1 := Lib.hid hz1; have H2 := Lib.hid hz2
  clear hi hz0 hz1 hz2
  obtain ⟨j0, hj, hy0, hy1, hy2⟩ := info_parts Try.info3
  have JI := Lib.hid hj; have J0 := Lib.hid hy0; have J1 := Lib.hid hy1; have J2 := Lib.hid hy2
  clear hj hy0 hy1 hy2
  go_enter Try.func16, Try.ntmps16
  go_wp2
  go_loopw [4, 5, 12] (fun v u i wr => ∃ k : Nat, k ≤ zs.length ∧ i = .int .i64 k ∧ TwoRows zs w k k v u wr) (fun _ _ i _ => zs.length - (intOf i).toNat)
  case atStart => exact ⟨0, by omega, rfl, World.ownsRow_nil _ _ _ _, World.ownsRow_nil _ _ _ _, Below.refl _ _⟩
  case round =>
    obtain ⟨k, hk, rfl, hG⟩ := hrel
    by_cases hlt : k < zs.length
    · rcases h with rfl | ⟨b, off, rfl, hbl, hcell⟩
      · simp at hlt
      · have hc := (hG.2.2.cell (p := ⟨b, off + k, none⟩) hbl).trans (hcell k hlt)
        obtain ⟨z0, z1⟩ := hb k hlt
        generalize hz : zs.getD k 0 = z at *
        have HZ := Lib.hid hz
        clear hcell hz
        have hlk : (upTo low zs k).length ≤ 300 := by rw [upTo_length]; omega
        have hbk := bads_len zs k
        go_wp2_with (first
          | (go_at_call 10; refine (refStrip_calls _ _ (by omega) (by omega)).mono ?_; rintro e w' ⟨rfl, rfl⟩)
          | (at_builtin; refine wpList_append_own _ rfl (.tmp 22) (.tmp 24) 28 rfl w.heap.size 5 i0 (.int .u8 0) 1 1 Try.underlying28 HI.out H0.out H1.out H2.out rfl (by decide) _ _ _ rfl (hG.1.alloc _) ⟨wr.heap.size, 0, none⟩ 1 1 [.int .u8 (low z)] rfl rfl ?c1 ?c2 ?c3 ?c4 ?c5 ?_))
        case c1 => exact cell_one_new _ _ _
        case c2 => intro u hu; simp at hu; subst hu; rfl
        case c3 => unfold maxLen; omega
        case c4 => omega
        case c5 => have := hG.2.2.size; simp; omega
        intro v' w2 hown' hgrow _
        have R := hG.byte HZ.out hown' hgrow
        clear hown' hgrow hG
        cases hod : odd z
        · go_wp2_with (at_builtin; refine wpList_append_own _ rfl (.tmp 28) (.tmp 30) 29 rfl w.heap.size 3 j0 (.int .i64 0) 1 8 Try.underlying29 JI.out J0.out J1.out J2.out rfl (by decide) _ _ _ rfl (R.2.1.alloc _) ⟨w2.heap.size, 0, none⟩ 1 1 [.int .i64 k] rfl rfl ?c1 ?c2 ?c3 ?c4 ?c5 ?_)
          case c1 => exact cell_one_new _ _ _
          case c2 => intro u hu; simp at hu; subst hu; rfl
          case c3 => unfold maxLen; omega
          case c4 => omega
          case c5 => have := R.2.2.size; simp; omega
          intro u' w3 hown' hgrow _
          have R2 := R.place (by rw [HZ.out]; exact hod) hown' hgrow
          clear hown' hgrow R
          go_wp2
          go_roundw
          case rel => exact ⟨k + 1, by omega, by go_num, R2⟩
          case measure => simp [intOf]; omega
        · go_wp2
          go_roundw
          case rel => exact ⟨k + 1, by omega, by go_num, R.odd (by rw [HZ.out]; exact hod)⟩
          case measure => simp [intOf]; omega
    · obtain rfl : k = zs.length := by omega
      go_wp2
      go_ret2
      exact ⟨_, _, rfl, hG⟩

end Go.Proofs.Ytmihfgmiphleeaa
