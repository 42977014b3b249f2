/- The contracts of align.sorted and align.belong: the IDs of the events of a document, ascending; whether links are those of the events. -/
import Derived.Test.YtdgakmpopgpijaaGreatDoorFinds
import Derived.Test.YtdgakmpopgpijaaGreatDoorShelfSort
set_option linter.unusedVariables false
namespace Go.Proofs.YtdgakmpopgpijaaGreatDoor
open Go.RowKit

/-- What f gives of the first k elements, in order. -/
def upTo {α β : Type} (f : α → List β) (xs : List α) : Nat → List β
  | 0 => []
  | k + 1 => upTo f xs k ++ (match xs[k]? with
    | none => []
    | some x => f x)
theorem upTo_at {α β : Type} (f : α → List β) (xs : List α) (k : Nat) (x : α) (h : xs[k]? = some x) : upTo f xs (k + 1) = upTo f xs k ++ f x := by rw [upTo, h]
theorem upTo_take {α β : Type} (f : α → List β) (xs : List α) : ∀ k, k ≤ xs.length → upTo f xs k = (xs.take k).flatMap f
  | 0, _ => by simp [upTo]
  | k + 1, h => by
    rw [upTo, upTo_take f xs k (by omega), List.getElem?_eq_getElem (show k < xs.length by omega), List.take_succ_eq_append_getElem (by omega), List.flatMap_append]
    simp
theorem upTo_all {α β : Type} (f : α → List β) (xs : List α) : upTo f xs xs.length = xs.flatMap f := by
  rw [upTo_take f xs _ (Nat.le_refl _), List.take_length]
theorem upTo_len {α β : Type} (f : α → List β) (hf : ∀ x, (f x).length ≤ 1) (xs : List α) : ∀ k, (upTo f xs k).length ≤ k
  | 0 => by simp [upTo]
  | k + 1 => by
    rw [upTo]
    have := upTo_len f hf xs k
    rcases h : xs[k]? with _ | x
    · simp; omega
    · have := hf x; simp; omega

def sortI (zs : List Int) : List Int := zs.mergeSort fun x y => decide (x ≤ y)
theorem sortI_len (zs : List Int) : (sortI zs).length = zs.length := List.length_mergeSort ..
def idOf (x : Ev) : List Int := [x.id]
/-- The IDs of events. -/
def idsOf (evs : List Ev) : List Int := evs.map Ev.id
theorem idsOf_flat (evs : List Ev) : evs.flatMap idOf = idsOf evs := by
  unfold idsOf idOf
  induction evs with
  | nil => rfl
  | cons x l ih => simp [ih]

theorem Tryz.info2 : (Tryz.prog.info? 2).map (fun i => (i.zero, i.size, i.bytes)) = some (some (.int .i64 0), 1, 8) := by kernel_rfl

theorem below_sorted {α : Type} [Inhabited α] {B : Nat} {w : World} (enc : α → Value) (n g off : Nat) (d : Array α) (os : Array Obj) (hg : B ≤ g) (hB : B ≤ w.heap.size) : Below B w (Sort.grow (Sort.putRow enc (Sort.ahead w n) g off d) os) := by
  refine ⟨rfl, rfl, rfl, by simp, fun k hk => ?_⟩
  rw [Sort.heap_grow_old _ _ (by simp; omega)]
  simp only [Sort.putRow, Sort.mapBlock, Array.getElem?_modify]
  rw [if_neg (by omega)]
  rfl

def SortPost (base : Nat) (v : Value) (zs : List Int) (w : World) (e : Ending) (w' : World) : Prop := e = .returned (.tuple #[]) ∧ (∃ a cap, v = .slice a zs.length cap ∧ Ints w' a (sortI zs)) ∧ Below base w w'

theorem sortInts_calls (base : Nat) (v : Value) (zs : List Int) (w : World) (hown : w.ownsRow base 2 1 v zs.length (zs.map (Value.int .i64))) (hl : zs.length ≤ 4000000) (hbase : base ≤ w.heap.size) :
    Calls Tryz.prog 75 #[v] w (SortPost base v zs w) := by
  by_cases h0 : zs = []
  · subst h0
    obtain ⟨a, cap, rfl, hI⟩ := Ints.of_owns (zs := []) hown
    exact (Tryz.slices_Sort_int_none a cap w).mono fun e w' ⟨he, hw⟩ => ⟨he, ⟨a, cap, rfl, .inl (by simp [sortI])⟩, hw ▸ Below.refl _ _⟩
  · rcases hown.2 with ⟨rfl, h1⟩ | ⟨g, cap, cur, rfl, hb, hg, _⟩
    · exact absurd (List.eq_nil_of_length_eq_zero h1) h0
    · have hgl : g < w.heap.size := (Array.getElem?_eq_some_iff.1 hg).1
      have hH : Sort.Holds (Value.int .i64) w g 0 zs.toArray := by
        intro j hj
        have hj' : j < zs.length := by simpa using hj
        refine ⟨?_, ?_⟩
        · rw [show 0 + j = j by omega, hown.cellAt j (by omega)]
          have := getElem!_pos zs.toArray j hj
          simp [hj']
        · rw [show 0 + j = j by omega]
          exact hown.frozenAt j
      refine (Tryz.slices_Sort_int g 0 cap zs w hH hgl (by omega)).mono fun e w' ⟨he, n, os, hw⟩ => ?_
      subst hw
      have hs : (sortI zs).toArray.size = zs.toArray.size := by simp [sortI_len]
      have hP : Sort.Holds (Value.int .i64) (Sort.putRow (Value.int .i64) (Sort.ahead w n) g 0 (sortI zs).toArray) g 0 (sortI zs).toArray := Sort.holds_putRow _ _ _ _ zs.toArray _ (Sort.holds_ahead _ _ _ _ _ _ hH) hs
      have hP2 := Sort.holds_grow (Value.int .i64) _ os g 0 _ (by simpa using hgl) hP
      refine ⟨he, ⟨_, cap, rfl, .inr ⟨g, 0, rfl, by simp; omega, fun i z hz => ⟨fun j u hu => ?_, trivial⟩⟩⟩, below_sorted _ n g 0 _ os hb hbase⟩
      match j, hu with
      | 0, hu =>
        simp at hu
        subst hu
        have hi : i < (sortI zs).length := (List.getElem?_eq_some_iff.1 hz).1
        have := (hP2 i (by simpa using hi)).1
        rw [show 0 + i * 1 + 0 = 0 + i by omega]
        refine this.trans ?_
        rw [getElem!_pos _ i (by simpa using hi)]
        have hz' := (List.getElem?_eq_some_iff.1 hz).2
        simp [hz']

def OwnRel {α : Type} (f : α → List Int) (xs : List α) (B : Nat) (W : World) (k : Nat) (v : Value) (wr : World) : Prop :=
  wr.ownsRow B 2 1 v (upTo f xs k).length ((upTo f xs k).map (Value.int .i64)) ∧ Below B W wr

def SortedPost (evs : List Ev) (w : World) (e : Ending) (w' : World) : Prop := ∃ a c, e = .returned (.slice a evs.length c) ∧ Ints w' a (sortI (idsOf evs)) ∧ Below w.heap.size w w'

set_option maxHeartbeats 3200000 in
theorem sorted_calls (d : Doc) (w : World) (hr : EvsAt w d.ea d.evs) (hl : d.evs.length ≤ 4000000) :
    Calls Tryz.prog 47 #[.agg d.enc.toArray] w (SortedPost d.evs w) := by
  obtain ⟨title, lang, rate, drop, last, ra, rc, regs, ea, ec, xs, ca, cc, cms⟩ := d
  simp only at hr hl
  simp only [Doc.enc]
  obtain ⟨j0, hj, hy0, hy1, hy2⟩ := info_parts Tryz.info2
  have JI := Lib.hid hj; have J0 := Lib.hid hy0; have J1 := Lib.hid hy1; have J2 := Lib.hid hy2
  clear hj hy0 hy1 hy2
  go_enter Tryz.func47, Tryz.ntmps47
  go_wp2_with fail
  go_loopw [3, 9] (fun v i wr => ∃ k : Nat, k ≤ xs.length ∧ i = .int .i64 k ∧ OwnRel idOf xs w.heap.size w k v wr) (fun _ i _ => xs.length - (intOf i).toNat)
  case atStart => exact ⟨0, by omega, rfl, World.ownsRow_nil _ _ _ _, (Below.refl _ _).alloc (Nat.le_refl _) _⟩
  case round =>
    obtain ⟨k, hk, rfl, hown, hb⟩ := hrel
    have hlk := upTo_len idOf (fun _ => Nat.le_refl 1) xs k
    by_cases hlt : k < xs.length
    · obtain ⟨b, off, x, rfl, hbl, hx, hc, _⟩ := (hr.later hb).at_ hlt
      have HAT := Lib.hid (upTo_at idOf xs k x hx)
      have HO := Lib.hid (fun (o : Obj) => hown.alloc o)
      have hbs := hb.size
      have HB := Lib.hid (fun (o : Obj) => hb.alloc hb.size o)
      have hlt0 := fun j hj => (hown.lt j hj).1
      have HLT := Lib.hid hlt0
      obtain ⟨xid, xin, xout, xreg, xkind, xsp, xa, xc, xrows⟩ := x
      have d0 := hc 0 _ rfl; have d1 := hc 1 _ rfl; have d2 := hc 2 _ rfl; have d3 := hc 3 _ rfl; have d4 := hc 4 _ rfl; have d5 := hc 5 _ rfl; have d6 := hc 6 _ rfl
      simp only [Nat.add_zero] at d0 d1 d2 d3 d4 d5 d6
      simp only [idOf] at HAT
      clear hc hx hr hown hlt0
      go_wp2_with (at_builtin; refine wpList_append_new _ _ rfl (.tmp 13) (.tmp 16) 63 rfl w.heap.size 2 j0 _ 1 8 Tryz.underlying63 JI.out J0.out J1.out J2.out rfl (by decide) _ _ _ rfl (HO.out _) _ rfl (by simp) rfl ?h1 ?h63 ?hb ?hbase ?_)
      case h1 => first | rfl | (intro u hu; simp at hu; subst hu; rfl)
      case h63 => unfold maxLen; omega
      case hb => omega
      case hbase => simp; omega
      intro v' w2 hown' hgrow
      have R : OwnRel idOf xs w.heap.size w (k + 1) v' w2 := by
        refine ⟨?_, ((HB.out _).alloc (by simp; omega) _).grown hgrow (by simp; omega) (fun j hj => HLT.out j hj)⟩
        rw [HAT.out]
        simpa using hown'
      clear hown' hgrow
      go_wp2_with fail
      go_roundw
      case rel => exact ⟨k + 1, by omega, by go_num, R⟩
      case measure => simp [intOf]; omega
    · obtain rfl : k = xs.length := by omega
      rw [upTo_all, idsOf_flat] at hown
      have hil : (idsOf xs).length = xs.length := by simp [idsOf]
      have HC := Lib.hid (sortInts_calls w.heap.size _ (idsOf xs) wr hown (by rw [hil]; exact hl) hb.size)
      have HIL := Lib.hid hil
      clear hown hil hlk
      go_wp2_with fail
      refine HC.out.mono ?_
      rintro e w1 ⟨rfl, ⟨a, cap, rfl, hI⟩, hb1⟩
      have hb2 := hb.trans hb1
      rw [HIL.out]
      go_wp2_with fail
      go_ret
      exact ⟨a, cap, rfl, hI, hb2⟩

theorem equal50_len (a a' : Option Addr) (n m c c' : Nat) (w : World) (h : ¬ n = m) : Calls Tryz.prog 50 #[.slice a n c, .slice a' m c'] w fun e w' => e = .returned (.bool false) ∧ w = w' := by
  have h1 : (n != m) = true := by simpa using h
  have h2 : ((n : Int) != (m : Int)) = true := by simp; omega
  go_enter Tryz.func50, Tryz.ntmps50
  go_wp2_with fail
  go_ret
  exact ⟨rfl, rfl⟩
theorem equal50_none (a a' : Option Addr) (c c' : Nat) (w : World) : Calls Tryz.prog 50 #[.slice a 0 c, .slice a' 0 c'] w fun e w' => e = .returned (.bool true) ∧ w = w' := by
  go_enter Tryz.func50, Tryz.ntmps50
  go_wp2_with fail
  refine wp_loop_rounds 1 ?_
  rw [rounds_succ]
  go_wp2_with fail
  go_ret
  exact ⟨rfl, rfl⟩
theorem allEq_int : ∀ xs ys : List Int, Lib.allEq (fun x y => x == y) xs ys = decide (xs = ys)
  | [], [] => by rw [Lib.allEq]; rfl
  | [], y :: ys => by rw [Lib.allEq_len _ _ _ (by simp)]; rfl
  | x :: xs, [] => by rw [Lib.allEq_len _ _ _ (by simp)]; rfl
  | x :: xs, y :: ys => by rw [Lib.allEq, allEq_int xs ys]; by_cases h : x = y <;> simp [h]
theorem equal50_calls (a a' : Option Addr) (c c' : Nat) (xs ys : List Int) (w : World) (h : Ints w a xs) (h' : Ints w a' ys) (hl : xs.length ≤ 4000000) (hl' : ys.length ≤ 4000000) :
    Calls Tryz.prog 50 #[.slice a xs.length c, .slice a' ys.length c'] w fun e w' => e = .returned (.bool (decide (xs = ys))) ∧ Below w.heap.size w w' := by
  by_cases hn : xs.length = ys.length
  · rcases h with rfl | ⟨b, off, rfl, hb, hc⟩
    · obtain rfl : ys = [] := List.eq_nil_of_length_eq_zero hn.symm
      exact (equal50_none a a' c c' w).mono fun e w' ⟨he, hw⟩ => ⟨he, hw ▸ Below.refl _ _⟩
    · rcases h' with rfl | ⟨b', off', rfl, hb', hc'⟩
      · obtain rfl : xs = [] := List.eq_nil_of_length_eq_zero hn
        exact (equal50_none _ a' c c' w).mono fun e w' ⟨he, hw⟩ => ⟨he, hw ▸ Below.refl _ _⟩
      · have h := Tryz.slices_Equal (Value.int .i64) (fun x y => x == y) (NeqAt.int _ _ _) b off xs.length c b' off' ys.length c' xs ys w (Nat.le_refl _) (Nat.le_refl _) (by omega) (by omega)
          (fun j hj => by have := (hc j _ (getBang xs j hj)).1 0 _ rfl; simpa using this) (fun j hj => by have := (hc' j _ (getBang ys j hj)).1 0 _ rfl; simpa using this)
        rw [List.take_length, List.take_length, allEq_int] at h
        exact h.mono fun e w' ⟨he, q, hw⟩ => ⟨he, hw ▸ below_drewN (Below.refl _ _) q⟩
  · have : ¬ xs = ys := fun h => hn (by rw [h])
    rw [decide_eq_false this]
    exact (equal50_len a a' _ _ c c' w hn).mono fun e w' ⟨he, hw⟩ => ⟨he, hw ▸ Below.refl _ _⟩

def ownId (x : Lk) : List Int := if x.st = 4 then [] else [x.tpl]
theorem ownId_one (x : Lk) : (ownId x).length ≤ 1 := by unfold ownId; split <;> simp
/-- The IDs of the events that have a link. -/
def ownIds (xs : List Lk) : List Int := xs.flatMap ownId
/-- Whether the links that are not orphans are those of the events. -/
def belongB (xs : List Lk) (evs : List Ev) : Bool := decide (ownIds xs = sortI (idsOf evs))

set_option maxHeartbeats 3200000 in
theorem belong_calls (a : Option Addr) (cap : Nat) (xs : List Lk) (d : Doc) (w : World) (hx : LksAt w a xs) (hlx : xs.length ≤ 4000000) (hr : EvsAt w d.ea d.evs) (hl : d.evs.length ≤ 4000000) :
    Calls Tryz.prog 28 #[.slice a xs.length cap, .agg d.enc.toArray] w fun e w' => e = .returned (.bool (belongB xs d.evs)) ∧ Below w.heap.size w w' := by
  have HSO := Lib.hid (fun (w1 : World) (h : Below w.heap.size w w1) => sorted_calls d w1 (hr.later h) hl)
  generalize hG : belongB xs d.evs = G
  obtain ⟨title, lang, rate, drop, last, ra, rc, regs, ea, ec, evs, ca, cc, cms⟩ := d
  simp only at hr hl hG
  simp only [Doc.enc] at HSO ⊢
  have HG := Lib.hid hG
  clear hG hr
  obtain ⟨j0, hj, hy0, hy1, hy2⟩ := info_parts Tryz.info2
  have JI := Lib.hid hj; have J0 := Lib.hid hy0; have J1 := Lib.hid hy1; have J2 := Lib.hid hy2
  clear hj hy0 hy1 hy2
  generalize hds : #[Value.string title, .string lang, .int .u8 rate, .bool drop, .int .i64 last, .slice ra regs.length rc, .slice ea evs.length ec, .slice ca cms.length cc] = ds at *
  have f0 := box_cell w ds 28 0 (.string title) (by rw [← hds]; rfl)
  have f1 := box_cell w ds 28 1 (.string lang) (by rw [← hds]; rfl)
  have f2 := box_cell w ds 28 2 (.int .u8 rate) (by rw [← hds]; rfl)
  have f3 := box_cell w ds 28 3 (.bool drop) (by rw [← hds]; rfl)
  have f4 := box_cell w ds 28 4 (.int .i64 last) (by rw [← hds]; rfl)
  have f5 := box_cell w ds 28 5 (.slice ra regs.length rc) (by rw [← hds]; rfl)
  have f6 := box_cell w ds 28 6 (.slice ea evs.length ec) (by rw [← hds]; rfl)
  have f7 := box_cell w ds 28 7 (.slice ca cms.length cc) (by rw [← hds]; rfl)
  have HB := Lib.hid (fun (w1 : World) (h : Below (w.heap.size + 1) (w.alloc (.cells ds 28)) w1) => box_below h)
  have hb0 : Below (w.heap.size + 1) (w.alloc (.cells ds 28)) (w.alloc (.cells ds 28)) := Below.refl _ _
  have hsz : (w.alloc (.cells ds 28)).heap.size = w.heap.size + 1 := World.size_alloc _ _
  generalize hW0 : w.alloc (.cells ds 28) = W0 at *
  have HW0 := Lib.hid hW0
  have HSZ := Lib.hid hsz
  clear hW0 hsz
  go_enter Tryz.func28, Tryz.ntmps28
  subst hds
  go_wp2_with fail
  rw [HW0.out]
  go_loopw [5, 10] (fun v i wr => ∃ k : Nat, k ≤ xs.length ∧ i = .int .i64 k ∧ OwnRel ownId xs (w.heap.size + 1) W0 k v wr) (fun _ i _ => xs.length - (intOf i).toNat)
  case atStart => exact ⟨0, by omega, rfl, World.ownsRow_nil _ _ _ _, hb0⟩
  case round =>
    obtain ⟨k, hk, rfl, hown, hb⟩ := hrel
    have hlk := upTo_len ownId ownId_one xs k
    have hbs := hb.size
    rw [HSZ.out] at hbs
    by_cases hlt : k < xs.length
    · obtain ⟨b, off, x, rfl, hbl, hxk, hc, _⟩ := (hx.later (HB.out _ hb)).at_ hlt
      have HAT := Lib.hid (upTo_at ownId xs k x hxk)
      have HO := Lib.hid (fun (o : Obj) => hown.alloc o)
      have HBA := Lib.hid (fun (o : Obj) => hb.alloc hbs o)
      have HLT := Lib.hid (fun j hj => (hown.lt j hj).1)
      obtain ⟨tpl, tgt, st⟩ := x
      have d0 := hc 0 _ rfl; have d1 := hc 1 _ rfl; have d2 := hc 2 _ rfl
      simp only [Nat.add_zero] at d0 d1 d2
      simp only [ownId] at HAT
      clear hc hxk hx hown
      by_cases hs : st = 4
      · subst hs
        rw [if_pos rfl, List.append_nil] at HAT
        go_wp2_with fail
        go_roundw
        case rel => exact ⟨k + 1, by omega, by go_num, by rw [OwnRel, HAT.out]; exact ⟨HO.out _, HBA.out _⟩⟩
        case measure => simp [intOf]; omega
      · rw [if_neg hs] at HAT
        have hsd : (st != 4) = true := by simpa using hs
        clear hs
        go_wp2_with (at_builtin; refine wpList_append_new _ _ rfl (.tmp 17) (.tmp 20) 63 rfl (w.heap.size + 1) 2 j0 _ 1 8 Tryz.underlying63 JI.out J0.out J1.out J2.out rfl (by decide) _ _ _ rfl (HO.out _) _ rfl (by simp) rfl ?h1 ?h63 ?hb ?hbase ?_)
        case h1 => first | rfl | (intro u hu; simp at hu; subst hu; rfl)
        case h63 => unfold maxLen; omega
        case hb => omega
        case hbase => simp; omega
        intro v' w2 hown' hgrow
        have R : OwnRel ownId xs (w.heap.size + 1) W0 (k + 1) v' w2 := by
          refine ⟨?_, ((HBA.out _).alloc (by simp; omega) _).grown hgrow (by simp; omega) (fun j hj => HLT.out j hj)⟩
          rw [HAT.out]
          simpa using hown'
        clear hown' hgrow
        go_wp2_with fail
        go_roundw
        case rel => exact ⟨k + 1, by omega, by go_num, R⟩
        case measure => simp [intOf]; omega
    · obtain rfl : k = xs.length := by omega
      rw [upTo_all] at hown hlk
      obtain ⟨a1, c1, hv1, hI1⟩ := Ints.of_owns (zs := ownIds xs) hown
      subst hv1
      have hbw := HB.out _ hb
      clear hown hx
      go_wp2_with fail
      refine (HSO.out _ hbw).mono ?_
      rintro e w1 ⟨a2, c2, rfl, hI2, hb1⟩
      have hI1' := hI1.later hb1
      have hlen : evs.length = (sortI (idsOf evs)).length := by rw [sortI_len]; simp [idsOf]
      have HE := Lib.hid (equal50_calls a1 a2 c1 c2 (ownIds xs) (sortI (idsOf evs)) w1 hI1' hI2 (by unfold ownIds; omega) (by rw [← hlen]; exact hl))
      rw [← hlen] at HE
      have hb3 := hbw.trans (hb1.mono hbw.size)
      clear hlen hI2 hI1'
      go_wp2_with fail
      refine HE.out.mono ?_
      rintro e w2 ⟨rfl, hb2⟩
      have hb4 := hb3.trans (hb2.mono hb3.size)
      go_wp2_with fail
      go_ret
      exact ⟨by rw [← HG.out]; rfl, hb4⟩

end Go.Proofs.YtdgakmpopgpijaaGreatDoor
