/- The contracts of event.lens and event.Len: the lengths of the rows of any event. -/
import Derived.Test.YtdgakmpopgpijaaGreatDoorEvRow
set_option linter.unusedVariables false
namespace Go.Proofs.YtdgakmpopgpijaaGreatDoor
open Go.RowKit

/-- An event, with the place of its rows. -/
structure Ev where
  id : Int
  inn : Int
  out : Int
  region : ByteArray
  kind : Int
  speaker : ByteArray
  at_ : Option Addr
  cap : Nat
  rows : List Row

def Ev.enc (x : Ev) : List Value := [.int .i64 x.id, .int .i64 x.inn, .int .i64 x.out, .string x.region, .int .u8 x.kind, .string x.speaker, .slice x.at_ x.rows.length x.cap]
def RowsAt (w : World) (a : Option Addr) (xs : List Row) : Prop := SliceOf 1 Row.enc Row.lies w a xs
theorem RowsAt.later {w w' : World} {a : Option Addr} {xs : List Row} (h : RowsAt w a xs) (hb : Below w.heap.size w w') : RowsAt w' a xs := SliceOf.keeps Row.keeps w w' a xs hb h
def Ev.lies (w : World) (x : Ev) : Prop := RowsAt w x.at_ x.rows
theorem Ev.keeps : Keeps Ev.lies := fun w w' r hb h => RowsAt.later h hb
def Ev.fits (x : Ev) : Prop := i64 x.id ∧ i64 x.inn ∧ i64 x.out ∧ x.region.size ≤ 4000000 ∧ 0 ≤ x.kind ∧ x.kind ≤ 255 ∧ x.speaker.size ≤ 4000000 ∧ (∀ r ∈ x.rows, r.fits) ∧ x.rows.length ≤ 4000000

/-- The lengths of the rows. -/
def lensOf (rows : List Row) : List Int := rows.map fun r => rowLen r.runs
def lensTo (rows : List Row) : Nat → List Int
  | 0 => []
  | k + 1 => lensTo rows k ++ [rowLen ((rows[k]?.map Row.runs).getD [])]

theorem lensTo_length (rows : List Row) : ∀ k, (lensTo rows k).length = k
  | 0 => rfl
  | k + 1 => by simp [lensTo, lensTo_length rows k]
theorem lensTo_take (rows : List Row) : ∀ k, k ≤ rows.length → lensTo rows k = (rows.take k).map fun r => rowLen r.runs
  | 0, _ => by simp [lensTo]
  | k + 1, h => by
    rw [lensTo, lensTo_take rows k (by omega), List.take_succ_eq_append_getElem (by omega), List.map_append]
    simp [List.getElem?_eq_getElem (show k < rows.length by omega)]
theorem lensTo_all (rows : List Row) : lensTo rows rows.length = lensOf rows := by
  rw [lensTo_take rows _ (Nat.le_refl _), List.take_length]; rfl
theorem lensTo_at (rows : List Row) (k : Nat) (r : Row) (h : rows[k]? = some r) : lensTo rows (k + 1) = lensTo rows k ++ [rowLen r.runs] := by
  rw [lensTo, h]; rfl

theorem Tryz.info3 : (Tryz.prog.info? 3).map (fun i => (i.zero, i.size, i.bytes)) = some (some (.int .i64 0), 1, 8) := by kernel_rfl

/-- What is owned stays owned in a later world. -/
theorem own_below {w w' : World} {B base e size n : Nat} {v : Value} {xs : List Value} (h : w.ownsRow base e size v n xs) (hb : Below B w w') (hB : w.heap.size ≤ B) : w'.ownsRow base e size v n xs := by
  refine ⟨h.1, ?_⟩
  rcases h.2 with hn | ⟨g, cap, cur, e1, hbase, hgg, rest⟩
  · exact .inl hn
  · refine .inr ⟨g, cap, cur, e1, hbase, ?_, rest⟩
    rw [hb.block g (Nat.lt_of_lt_of_le (Array.getElem?_eq_some_iff.1 hgg).1 hB)]
    exact hgg

theorem Ints.of_owns {w : World} {base e : Nat} {v : Value} {zs : List Int} (h : w.ownsRow base e 1 v zs.length (zs.map (Value.int .i64))) : ∃ a cap, v = .slice a zs.length cap ∧ Ints w a zs := by
  have h' := h
  rcases h.2 with ⟨rfl, h0⟩ | ⟨g, cap, cur, rfl, hb, hg, _⟩
  · exact ⟨none, 0, by rw [h0], .inl (by cases zs <;> simp_all)⟩
  · refine ⟨_, cap, rfl, .inr ⟨g, 0, rfl, (Array.getElem?_eq_some_iff.1 hg).1, fun i z hz => ⟨fun j v hv => ?_, trivial⟩⟩⟩
    have hi : i < zs.length := (List.getElem?_eq_some_iff.1 hz).1
    match j, hv with
    | 0, hv =>
      simp at hv
      subst hv
      rw [show 0 + i * 1 + 0 = i by omega, h'.cellAt i (by omega)]
      simp [hz]

def LensRel (rows : List Row) (w : World) (k : Nat) (v : Value) (wr : World) : Prop :=
  wr.ownsRow w.heap.size 3 1 v (lensTo rows k).length ((lensTo rows k).map (Value.int .i64)) ∧ Below w.heap.size w wr

def LensPost (rows : List Row) (w : World) (e : Ending) (w' : World) : Prop := ∃ a c, e = .returned (.slice a rows.length c) ∧ Ints w' a (lensOf rows) ∧ Below w.heap.size w w'

theorem lens_end {xs : List Row} {w wr : World} {v : Value} (hown : wr.ownsRow w.heap.size 3 1 v (lensTo xs xs.length).length ((lensTo xs xs.length).map (Value.int .i64))) (hb : Below w.heap.size w wr) : LensPost xs w (.returned v) wr := by
  rw [lensTo_all] at hown
  obtain ⟨a', c', rfl, hI⟩ := Ints.of_owns hown
  exact ⟨a', c', by simp [lensOf], hI, hb⟩

set_option maxHeartbeats 3200000 in
theorem lens_calls (x : Ev) (w : World) (hE : Env w) (hr : x.lies w) (hf : x.fits) :
    Calls Tryz.prog 71 #[.agg x.enc.toArray] w (LensPost x.rows w) := by
  obtain ⟨id, inn, out, region, kind, speaker, a, cap, xs⟩ := x
  obtain ⟨_, _, _, _, _, _, _, hfx, hl⟩ := hf
  simp only [Ev.lies] at hr hfx hl
  simp only [Ev.enc]
  obtain ⟨j0, hj, hy0, hy1, hy2⟩ := info_parts Tryz.info3
  have JI := Lib.hid hj; have J0 := Lib.hid hy0; have J1 := Lib.hid hy1; have J2 := Lib.hid hy2
  clear hj hy0 hy1 hy2
  go_enter Tryz.func71, Tryz.ntmps71
  go_wp2_with fail
  go_loopw [3, 9] (fun v i wr => ∃ k : Nat, k ≤ xs.length ∧ i = .int .i64 k ∧ LensRel xs w k v wr) (fun _ i _ => xs.length - (intOf i).toNat)
  case atStart => exact ⟨0, by omega, rfl, World.ownsRow_nil _ _ _ _, (Below.refl _ _).alloc (Nat.le_refl _) _⟩
  case round =>
    obtain ⟨k, hk, rfl, hown, hb⟩ := hrel
    by_cases hlt : k < xs.length
    · obtain ⟨b, off, r, rfl, hbl, hx, hc, hok⟩ := (hr.later hb).at_ hlt
      have hfr := hfx r (List.mem_of_getElem? hx)
      have HL := Lib.hid (fun w1 h1 h2 => rowLen_calls r w1 h1 h2 hfr)
      have hat := lensTo_at xs k r hx
      obtain ⟨ra, rc, rr⟩ := r
      simp only [Row.enc, Row.lies] at HL hok hat
      have d0 := hc 0 _ rfl
      simp only [Nat.add_zero, Nat.mul_one] at d0
      have hbs := hb.size
      have HE := Lib.hid (fun o => hE.below (hb.alloc hb.size o) (Nat.le_refl _))
      have HOK := Lib.hid (fun o => hok.later ((Below.refl wr.heap.size wr).alloc (Nat.le_refl _) o))
      have HO := Lib.hid (fun (o : Obj) (w1 : World) (h1 : Below (wr.heap.size + 1) (wr.alloc o) w1) => own_below (hown.alloc o) h1 (by simp))
      have HB := Lib.hid (fun (o : Obj) (w1 : World) (h1 : Below (wr.heap.size + 1) (wr.alloc o) w1) => below_alloc_trans hb o h1)
      have HAT := Lib.hid hat
      have hlk : (lensTo xs k).length ≤ 4000000 := by rw [lensTo_length]; omega
      generalize rowLen rr = L at *
      clear hc hx hr hown hfx hfr hat hok
      go_wp2_with (first
        | (go_at_call 114; refine (HL.out _ (HE.out _) (HOK.out _)).mono ?_; rintro e w1 ⟨rfl, hb1⟩; simp only [World.size_alloc] at hb1; have ho1 := Lib.hid (HO.out _ _ hb1); have hbw := HB.out _ _ hb1; have hbz := hbw.size)
        | (at_builtin; refine wpList_append_new _ _ rfl (.tmp 13) (.tmp 16) 111 rfl w.heap.size 3 j0 _ 1 8 Tryz.underlying111 JI.out J0.out J1.out J2.out rfl (by decide) _ _ _ rfl ho1.out _ rfl rfl rfl ?h1 ?h63 ?hb ?hbase ?_))
      case h1 => first | rfl | (intro u hu; simp at hu; subst hu; rfl)
      case h63 => unfold maxLen; omega
      case hb => omega
      case hbase => exact hbz
      intro v' w2 hown' hgrow
      have R : LensRel xs w (k + 1) v' w2 := by
        refine ⟨?_, (hbw.alloc hbw.size _).grown hgrow (by simp; omega) (fun j hj => (ho1.out.lt j hj).1)⟩
        rw [HAT.out]
        simpa using hown'
      clear hown' hgrow ho1
      go_wp2_with fail
      go_roundw
      case rel => exact ⟨k + 1, by omega, by go_num, R⟩
      case measure => simp [intOf]; omega
    · obtain rfl : k = xs.length := by omega
      have HEND := Lib.hid (lens_end hown hb)
      clear hown
      go_wp2_with fail
      go_ret
      exact HEND.out

end Go.Proofs.YtdgakmpopgpijaaGreatDoor
