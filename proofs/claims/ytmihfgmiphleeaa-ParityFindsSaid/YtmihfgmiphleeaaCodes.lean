/- The contracts of parity.Encode and parity.Decode: what they return for any bytes, in new memory. -/
import Derived.Test.YtmihfgmiphleeaaBase
namespace Go.Proofs.Ytmihfgmiphleeaa
open Go.ChangeShapes Go.WideShapes Go.ChangeAt Go.RowKit

/-- The address leads to the numbers zs. -/
def Holds (k : IntKind) (w : World) (a : Option Addr) (zs : List Int) : Prop :=
  zs = [] ∨ ∃ b off, a = some ⟨b, off, none⟩ ∧ b < w.heap.size ∧ ∀ i, i < zs.length → w.cell? ⟨b, off + i, none⟩ = some (.int k (zs.getD i 0))

def Bytes (zs : List Int) : Prop := ∀ i, i < zs.length → 0 ≤ zs.getD i 0 ∧ zs.getD i 0 ≤ 255

theorem Try.info5 : (Try.prog.info? 5).map (fun i => (i.zero, i.size, i.bytes)) = some (some (.int .u8 0), 1, 1) := by kernel_rfl
theorem Try.info3 : (Try.prog.info? 3).map (fun i => (i.zero, i.size, i.bytes)) = some (some (.int .i64 0), 1, 8) := by kernel_rfl

/-- The bytes of k elements behind f, then others: n in all. -/
def Part (f : Int → Int) (zs : List Int) (k : Nat) (xs : List Value) : Prop :=
  ∃ rest, rest.length = zs.length - k ∧ xs = ((zs.take k).map f).map (Value.int .u8) ++ rest

theorem Part.all {f : Int → Int} {zs : List Int} {xs : List Value} (h : Part f zs zs.length xs) : xs = (zs.map f).map (Value.int .u8) := by
  obtain ⟨rest, hl, rfl⟩ := h
  simp at hl
  simp [hl]

theorem Part.set {f : Int → Int} {zs : List Int} {k : Nat} {xs : List Value} (h : Part f zs k xs) (hk : k < zs.length) :
    Part f zs (k + 1) (xs.set k (.int .u8 (f (zs.getD k 0)))) := by
  obtain ⟨rest, hl, rfl⟩ := h
  cases rest with
  | nil => simp at hl; omega
  | cons r rest =>
    refine ⟨rest, by simp at hl; omega, ?_⟩
    have hk' : k = (((zs.take k).map f).map (Value.int .u8)).length := by simp; omega
    rw [List.take_succ_eq_append_getElem hk]
    rw [List.set_append_right _ _ (by omega)]
    rw [show k - (((zs.take k).map f).map (Value.int .u8)).length = 0 by omega]
    rw [show zs.getD k 0 = zs[k] by simp [hk]]
    simp only [List.map_append, List.map_cons, List.map_nil, List.set_cons_zero, List.append_assoc, List.cons_append, List.nil_append]

theorem Part.length {f : Int → Int} {zs : List Int} {k : Nat} {xs : List Value} (h : Part f zs k xs) (hk : k ≤ zs.length) : xs.length = zs.length := by
  obtain ⟨rest, hl, rfl⟩ := h
  simp; omega

/-- The relation of Encode's and Decode's loops: block B holds n bytes, the first k of them done. -/
def Made (f : Int → Int) (zs : List Int) (w : World) (k : Nat) (wr : World) : Prop :=
  ∃ xs, wr.ownsRow w.heap.size 5 1 (.slice (some ⟨w.heap.size, 0, none⟩) zs.length zs.length) zs.length xs ∧ Part f zs k xs ∧ Below w.heap.size w wr

theorem Made.start {f : Int → Int} {zs : List Int} {w w1 : World} {xs : List Value} (h : w1.ownsRow w.heap.size 5 1 (.slice (some ⟨w.heap.size, 0, none⟩) zs.length zs.length) zs.length xs) (hg : w.grownBy w1 none) :
    Made f zs w 0 w1 :=
  ⟨xs, h, ⟨xs, by have := h.1; omega, by simp⟩, (Below.refl _ _).grown hg (Nat.le_refl _) (by simp)⟩

theorem Made.cell {f : Int → Int} {zs : List Int} {w wr : World} {k : Nat} (h : Made f zs w k wr) (hk : k < zs.length) :
    (∃ v, wr.cell? ⟨w.heap.size, k, none⟩ = some v) ∧ wr.frozen? ⟨w.heap.size, k, none⟩ = false := by
  obtain ⟨xs, ho, hp, hb⟩ := h
  refine ⟨?_, ho.frozenAt k⟩
  rw [ho.cellAt k (by omega)]
  have := hp.length (by omega)
  exact ⟨xs[k], by rw [List.getElem?_eq_getElem]⟩

theorem Made.step {f : Int → Int} {zs : List Int} {w wr : World} {k : Nat} (h : Made f zs w k wr) (hk : k < zs.length) :
    Made f zs w (k + 1) (wr.setCell ⟨w.heap.size, k, none⟩ (.int .u8 (f (zs.getD k 0)))) := by
  obtain ⟨xs, ho, hp, hb⟩ := h
  exact ⟨_, (ho.stored k _).1, hp.set hk, hb.setCell (Nat.le_refl _) _⟩

theorem Made.old {f : Int → Int} {zs : List Int} {w wr : World} {k : Nat} (h : Made f zs w k wr) {b off : Nat} (hb : b < w.heap.size) {v : Value} (hc : w.cell? ⟨b, off, none⟩ = some v) :
    wr.cell? ⟨b, off, none⟩ = some v := by
  obtain ⟨xs, ho, hp, hB⟩ := h
  exact (hB.cell (p := ⟨b, off, none⟩) hb).trans hc

set_option maxHeartbeats 400000 in
theorem encode_calls (a : Option Addr) (cap : Nat) (zs : List Int) (w : World) (h : Holds .u8 w a zs) (hlen : zs.length ≤ 300) (hb : Bytes zs) :
    Calls Try.prog 17 #[.slice a zs.length cap] w fun e w' => e = .returned (.slice (some ⟨w.heap.size, 0, none⟩) zs.length zs.length) ∧
      Made addP zs w zs.length w' := by
  obtain ⟨i0, hi, hz0, hz1, hz2⟩ := info_parts Try.info5
  have HI := Lib.hid hi; have H0 := Lib.hid hz0; have H1 := Lib.hid hz1; have H2 := Lib.hid hz2
  clear hi hz0 hz1 hz2
  have hmx : zs.length ≤ maxLen := by unfold maxLen; omega
  go_enter Try.func17, Try.ntmps17
  go_wp2_with (at_make; refine wpList_make_full _ rfl _ _ 28 rfl w.heap.size 5 i0 (.int .u8 0) 1 Try.underlying28 HI.out H0.out H1.out .i64 .i64 _ _ zs.length rfl rfl rfl rfl ?m1 hmx (Nat.le_refl _) ?_)
  case m1 => rw [H2.out]; omega
  intro w1 hown hgrow
  have hM : Made addP zs w 0 w1 := Made.start hown hgrow
  clear hown hgrow
  go_wp2
  go_loopw [11] (fun i wr => ∃ k : Nat, k ≤ zs.length ∧ i = .int .i64 k ∧ Made addP zs w k wr) (fun i _ => zs.length - (intOf i).toNat)
  case atStart => exact ⟨0, by omega, rfl, hM⟩
  case round =>
    obtain ⟨k, hk, rfl, hM⟩ := hrel
    by_cases hlt : k < zs.length
    · rcases h with rfl | ⟨b, off, rfl, hbl, hcell⟩
      · simp at hlt
      · have hc := hM.old hbl (hcell k hlt)
        obtain ⟨z0, z1⟩ := hb k hlt
        obtain ⟨⟨u, hu⟩, hfz⟩ := hM.cell hlt
        have hs := hM.step hlt
        generalize zs.getD k 0 = z at *
        clear hM hcell
        go_wp2_with (go_at_call 13; refine (add_calls _ _ (by omega) (by omega)).mono ?_; rintro e w' ⟨rfl, rfl⟩)
        go_roundw
        case rel => exact ⟨k + 1, by omega, by go_num, hs⟩
        case measure => simp [intOf]; omega
    · obtain rfl : k = zs.length := by omega
      go_wp2
      go_ret
      exact ⟨rfl, hM⟩

/-- The places of the bytes whose parity is wrong. -/
def bads (zs : List Int) : Nat → List Int
  | 0 => []
  | k + 1 => if odd (zs.getD k 0) then bads zs k else bads zs k ++ [(k : Int)]

theorem bads_len (zs : List Int) : ∀ k, (bads zs k).length ≤ k
  | 0 => by simp [bads]
  | k + 1 => by
    have := bads_len zs k
    simp only [bads]
    split
    · omega
    · simp; omega

theorem Made.grown {f : Int → Int} {zs : List Int} {w wr w' : World} {k : Nat} {row : Option Nat} (h : Made f zs w k wr) (hg : wr.grownBy w' row) (hr : ∀ j, row = some j → w.heap.size + 1 ≤ j) :
    Made f zs w k w' := by
  obtain ⟨xs, ho, hp, hb⟩ := h
  refine ⟨xs, ho.kept hg (.inr fun e => ?_), hp, hb.grown hg hb.size (fun j hj => by have := hr j hj; omega)⟩
  have := hr w.heap.size e.symm
  omega

theorem Made.size {f : Int → Int} {zs : List Int} {w wr : World} {k : Nat} (h : Made f zs w k wr) : w.heap.size + 1 ≤ wr.heap.size := by
  obtain ⟨xs, ho, hp, hb⟩ := h
  exact (ho.lt _ rfl).2

theorem bads_odd (zs : List Int) (k : Nat) (h : odd (zs.getD k 0) = true) : bads zs (k + 1) = bads zs k := by
  simp only [bads, h, if_true]
theorem bads_even (zs : List Int) (k : Nat) (h : odd (zs.getD k 0) = false) : bads zs (k + 1) = bads zs k ++ [(k : Int)] := by
  simp only [bads, h, Bool.false_eq_true, if_false]

/-- Decode's relation: the bytes done, the list of bad places so far. -/
def Both (zs : List Int) (w : World) (k : Nat) (v : Value) (wr : World) : Prop :=
  Made low zs w k wr ∧ wr.ownsRow (w.heap.size + 1) 3 1 v (bads zs k).length ((bads zs k).map (Value.int .i64))

theorem Both.even {zs : List Int} {w wr w2 : World} {k : Nat} {z : Int} {v v' : Value} {o : Obj} (hs : Made low zs w (k + 1) (wr.setCell ⟨w.heap.size, k, none⟩ (.int .u8 (low z))))
    (hO : wr.ownsRow (w.heap.size + 1) 3 1 v (bads zs k).length ((bads zs k).map (Value.int .i64))) (hod : odd (zs.getD k 0) = false)
    (hown : w2.ownsRow (w.heap.size + 1) 3 1 v' ((bads zs k).length + 1) ((bads zs k).map (Value.int .i64) ++ [Value.int .i64 k]))
    (hg : ((wr.setCell ⟨w.heap.size, k, none⟩ (.int .u8 (low z))).alloc o).grownBy w2 v.ownBlock) : Both zs w (k + 1) v' w2 := by
  refine ⟨(hs.grown (World.grownBy_alloc _ o none) (by simp)).grown hg (fun j hj => (hO.lt j hj).1), ?_⟩
  rw [bads_even zs k hod]
  simpa using hown

theorem Both.odd {zs : List Int} {w wr : World} {k : Nat} {z : Int} {v : Value} (hs : Made low zs w (k + 1) (wr.setCell ⟨w.heap.size, k, none⟩ (.int .u8 (low z))))
    (hO : wr.ownsRow (w.heap.size + 1) 3 1 v (bads zs k).length ((bads zs k).map (Value.int .i64))) (hod : odd (zs.getD k 0) = true) :
    Both zs w (k + 1) v (wr.setCell ⟨w.heap.size, k, none⟩ (.int .u8 (low z))) := by
  refine ⟨hs, ?_⟩
  rw [bads_odd zs k hod]
  exact ownsRow_setCell_below hO (by simp) _

set_option maxHeartbeats 400000 in
theorem decode_calls (a : Option Addr) (cap : Nat) (zs : List Int) (w : World) (h : Holds .u8 w a zs) (hlen : zs.length ≤ 300) (hb : Bytes zs) :
    Calls Try.prog 15 #[.slice a zs.length cap] w fun e w' => ∃ v, e = .returned (.tuple #[.slice (some ⟨w.heap.size, 0, none⟩) zs.length zs.length, v]) ∧
      Both zs w zs.length v w' := by
  obtain ⟨i0, hi, hz0, hz1, hz2⟩ := info_parts Try.info5
  have HI := Lib.hid hi; have H0 := Lib.hid hz0; have H1 := Lib.hid hz1; have H2 := Lib.hid hz2
  clear hi hz0 hz1 hz2
  obtain ⟨j0, hj, hy0, hy1, hy2⟩ := info_parts Try.info3
  have JI := Lib.hid hj; have J0 := Lib.hid hy0; have J1 := Lib.hid hy1; have J2 := Lib.hid hy2
  clear hj hy0 hy1 hy2
  have hmx : zs.length ≤ maxLen := by unfold maxLen; omega
  go_enter Try.func15, Try.ntmps15
  go_wp2_with (at_make; refine wpList_make_full _ rfl _ _ 28 rfl w.heap.size 5 i0 (.int .u8 0) 1 Try.underlying28 HI.out H0.out H1.out .i64 .i64 _ _ zs.length rfl rfl rfl rfl ?m1 hmx (Nat.le_refl _) ?_)
  case m1 => rw [H2.out]; omega
  intro w1 hown hgrow
  have hM : Made low zs w 0 w1 := Made.start hown hgrow
  clear hown hgrow
  go_wp2
  go_loopw [5, 15] (fun v i wr => ∃ k : Nat, k ≤ zs.length ∧ i = .int .i64 k ∧ Both zs w k v wr) (fun _ i _ => zs.length - (intOf i).toNat)
  case atStart => exact ⟨0, by omega, rfl, hM, World.ownsRow_nil _ _ _ _⟩
  case round =>
    obtain ⟨k, hk, rfl, hM, hO⟩ := hrel
    by_cases hlt : k < zs.length
    · rcases h with rfl | ⟨b, off, rfl, hbl, hcell⟩
      · simp at hlt
      · have hc := hM.old hbl (hcell k hlt)
        obtain ⟨z0, z1⟩ := hb k hlt
        obtain ⟨⟨u, hu⟩, hfz⟩ := hM.cell hlt
        have hs := hM.step hlt
        have hbd := bads_len zs k
        generalize hz : zs.getD k 0 = z at *
        have HZ := Lib.hid hz
        clear hM hcell hz
        cases hod : odd z
        · go_wp2_with (first
            | (go_at_call 9; refine (strip_calls _ _ (by omega) (by omega)).mono ?_; rintro e w' ⟨rfl, rfl⟩)
            | (at_builtin; go_must (refine wpList_append_own _ rfl _ _ 29 rfl (w.heap.size + 1) 3 j0 (.int .i64 0) 1 8 Try.underlying29 JI.out J0.out J1.out J2.out rfl (by decide) _ _ _ rfl ((ownsRow_setCell_below hO (a := ⟨w.heap.size, k, none⟩) (by simp) _).alloc _) ⟨wr.heap.size, 0, none⟩ 1 1 [.int .i64 k] rfl rfl ?c1 ?c2 ?c3 ?c4 ?c5 ?_)))
          case c1 =>
            have := cell_one_new (wr.setCell ⟨w.heap.size, k, none⟩ (.int .u8 (low z))) (.int .i64 k) 3
            rw [World.size_setCell] at this
            exact this
          case c2 => intro u hu; simp at hu; subst hu; rfl
          case c3 => unfold maxLen; omega
          case c4 => omega
          case c5 => have := hs.size; simp at this ⊢; omega
          intro v' w2 hown' hgrow _
          have R := Both.even hs hO (by rw [HZ.out]; exact hod) hown' hgrow
          clear hown' hgrow hO hs
          go_wp2
          go_roundw
          case rel => exact ⟨k + 1, by omega, by go_num, R⟩
          case measure => simp [intOf]; omega
        · go_wp2_with (first
            | (go_at_call 9; refine (strip_calls _ _ (by omega) (by omega)).mono ?_; rintro e w' ⟨rfl, rfl⟩))
          go_roundw
          case rel => exact ⟨k + 1, by omega, by go_num, Both.odd hs hO (by rw [HZ.out]; exact hod)⟩
          case measure => simp [intOf]; omega
    · obtain rfl : k = zs.length := by omega
      go_wp2
      go_ret2
      exact ⟨_, rfl, hM, hO⟩

end Go.Proofs.Ytmihfgmiphleeaa
