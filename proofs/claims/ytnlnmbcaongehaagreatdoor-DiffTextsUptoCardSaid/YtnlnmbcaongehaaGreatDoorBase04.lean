/- Copies: slices.Clone at rows, runs, regions, comments and events. (printed by gen_copies.py) DERIVED: THE SHELF's CONTRACTS AT THIS DUMP, IN PLAIN WORDS (tools/lay-plain.mjs out of 'YtnlnmbcaongehaaGreatDoorShelfT.lean', which tools/lay-shelf.mjs wrote): THE SAME DECLARATIONS UNDER THE SAME NAMES: 'import', 'namespace', 'open', 'def', 'theorem' AND NOTHING ELSE: no command of the shelf's: FOR A HAND-IN. Each laying: the table of numbers ('.._ren') and one theorem, a field a fact of the dump's own or the kernel's comparison; each contract: ONE APPLICATION. slices.Grow of nil and slices.Concat of two slices, at regions, events and comments. (printed by gen_concat.py) -/
import Derived.Shelf.Spec.SlicesGrow
import Derived.Ground.Names8Prog
import Derived.Shelf.Strings.Builder1
import Derived.Shelf.Strings.Builder2
import Derived.Shelf.Strings.OnBuilder
import Derived.Shelf.Small.Bits
import Derived.Shelf.Strings.BuilderF
import Derived.Shelf.Strings.BuilderK
import Derived.Shelf.Utf8.RuneCount
import Derived.Shelf.Strconv.Itoa0
import Derived.Shelf.Strconv.Itoa1
import Derived.Shelf.LaysM
import Derived.Shelf.Strconv.Itoa2
import Derived.Shelf.Strconv.Itoa3
import Derived.Shelf.Strconv.Itoa4
import Derived.Shelf.Strings.Search1
import Derived.Shelf.Strings.Search2
import Derived.Shelf.Strings.Search3
import Derived.Shelf.Strings.Shaped
import Derived.Shelf.Strings.RuneCount
import Derived.Shelf.Slices.Turned
import Derived.Shelf.Slices.CompactS
import Derived.Shelf.Slices.Cells
import Derived.Ground.SlgnProg
import Derived.Shelf.SlicesG.CompactI
import Derived.Shelf.SlicesE.Clone
import Derived.Ground.SlgqProg
import Derived.Shelf.SlicesQ.Equal
import Derived.Ground.SlgcProg
import Derived.Shelf.SlicesG.Cmp
import Derived.Ground.SlgfProg
import Derived.Shelf.SlicesQ.IndexFunc
import Derived.Shelf.SlicesQ.Reverse
import Derived.Ground.SlgmProg
import Derived.Shelf.SortM.Plain
import Derived.Shelf.SortM.SortNone
import Derived.Ground.SlsfProg
import Derived.Shelf.SlSortCmp.InsertionK
import Derived.Test.YtnlnmbcaongehaaGreatDoorProg
import Derived.Test.YtnlnmbcaongehaaGreatDoorBase02
import Derived.Test.YtnlnmbcaongehaaGreatDoorBase03
import Derived.Test.YtnlnmbcaongehaaGreatDoorBase00
set_option linter.unusedVariables false
set_option linter.unusedSimpArgs false
namespace Go.Proofs.YtnlnmbcaongehaaGreatDoor
open Go.RowKit
/-- The elements in memory of the call's own. -/
def CopyPost {α : Type} (T k : Nat) (enc : α → List Value) (xs : List α) (w : World) (e : Ending) (w' : World) : Prop := ∃ v, e = .returned v ∧ w'.ownsRow w.heap.size T k v xs.length (xs.flatMap enc) ∧ Below w.heap.size w w'
theorem Tryz.info78 : (Tryz.prog.info? 78).map (fun i => (i.zero, i.size, i.bytes)) = some (some (.agg #[.slice none 0 0]), 1, 24) := by kernel_rfl
theorem Row.one : ∀ (x : Row) (v : Value), v ∈ x.enc → v.oneCell' = true := by
  intro x v hv
  simp only [Row.enc, List.mem_cons, List.not_mem_nil, or_false] at hv
  rcases hv with rfl <;> rfl
set_option maxRecDepth 100000 in
theorem clone167_empty (ad : Addr) (c : Nat) (w : World) : Calls Tryz.prog 167 #[.slice (some ad) 0 c] w (CopyPost 78 1 Row.enc [] w) := by
  have HE := Lib.hid (fun (v : Value) (w' : World) (ho : w'.ownsRow w.heap.size 78 1 v (0 + ([] : List Row).length) ([] ++ ([] : List Row).flatMap Row.enc)) (hb : Below w.heap.size w w') => show CopyPost 78 1 Row.enc [] w (.returned v) w' from ⟨v, rfl, ho, hb⟩)
  have q22 : ∀ (w : World) (a : Option Addr) (n c n' c' : Nat), (binOp .eql 48 (.slice a n c) (.slice none n' c')).run Tryz.prog w = .ok (.bool a.isNone) w := fun w a n c n' c' => Lib.run_eql_slice_nil w _ _ a n c n' c' Tryz.underlying48
  obtain ⟨j0, hj, hy0, hy1, hy2⟩ := info_parts Tryz.info78
  have JI := Lib.hid hj; have J0 := Lib.hid hy0; have J1 := Lib.hid hy1; have J2 := Lib.hid hy2
  generalize CopyPost 78 1 Row.enc [] w = Q at *
  clear hj hy0 hy1 hy2
  go_enter Tryz.func167, Tryz.ntmps167
  go_wp2_with (at_builtin; refine wpList_append_slice (enc := Row.enc) (Ok := Flat) _ rfl (.tmp 5) (.tmp 6) 48 rfl w.heap.size 78 j0 _ 1 24 Tryz.underlying48 JI.out J0.out J1.out J2.out rfl (by decide) (fun _ => rfl) Row.one _ 0 [] rfl (World.ownsRow_made w #[] 0 (Nat.le_refl _) (Nat.zero_le _) (by simp)) (some ad) c [] rfl (.inl rfl) ?h63 ?hb ?hbase ?_)
  try (case h63 => decide)
  try (case hb => decide)
  try (case hbase => simp)
  intro v' w' ho hg _
  have HO := Lib.hid ho
  have HB := Lib.hid (show Below w.heap.size w w' from ((Below.refl _ _).alloc (Nat.le_refl _) _).grown hg (by simp) (fun j hj => by simp [Value.ownBlock] at hj; omega))
  clear ho hg
  go_wp2_with fail
  exact HE.out _ _ HO.out HB.out
theorem clone167_calls {Ok : World → Row → Prop} (a : Option Addr) (cap : Nat) (xs : List Row) (w : World) (h : SliceOf 1 Row.enc Ok w a xs) (hl : xs.length ≤ 4000000) : Calls Tryz.prog 167 #[.slice a xs.length cap] w (CopyPost 78 1 Row.enc xs w) := by
  rcases xs with _ | ⟨x0, xl⟩
  · cases a with
    | none => exact (Tryz.slices_Clone_nil_f167 0 cap w).mono fun e w' ⟨he, hw⟩ => ⟨_, he, World.ownsRow_nil _ _ _ _, hw ▸ Below.refl _ _⟩
    | some ad => exact clone167_empty ad cap w
  · obtain ⟨b, off, x, rfl, _⟩ := h.at_ (show 0 < (x0 :: xl).length by simp)
    obtain ⟨j0, hj, hy0, hy1, hy2⟩ := info_parts Tryz.info78
    exact (Tryz.slices_Clone_f167 j0 _ 1 24 hj hy0 hy1 hy2 rfl (by decide) (fun w => by kernel_rfl) b off (x0 :: xl).length cap ((x0 :: xl).flatMap Row.enc) w (flat_len Row.enc 1 (fun _ => rfl) _) (by unfold maxLen; omega) (by omega) (flat_cells (k := 1) (enc := Row.enc) (Ok := Ok) (fun _ => rfl) h) (flat_one (enc := Row.enc) Row.one _)).mono fun e w' ⟨v, he, ho, _, hb⟩ => ⟨v, he, ho, hb⟩
theorem Tryz.info75 : (Tryz.prog.info? 75).map (fun i => (i.zero, i.size, i.bytes)) = some (some (.agg #[.string ⟨#[]⟩, .int .u8 0, .bool false, .bool false, .string ⟨#[]⟩]), 5, 40) := by kernel_rfl
theorem Run.one : ∀ (x : Run) (v : Value), v ∈ x.enc → v.oneCell' = true := by
  intro x v hv
  simp only [Run.enc, List.mem_cons, List.not_mem_nil, or_false] at hv
  rcases hv with rfl | rfl | rfl | rfl | rfl <;> rfl
set_option maxRecDepth 100000 in
theorem clone168_empty (ad : Addr) (c : Nat) (w : World) : Calls Tryz.prog 168 #[.slice (some ad) 0 c] w (CopyPost 75 5 Run.enc [] w) := by
  have HE := Lib.hid (fun (v : Value) (w' : World) (ho : w'.ownsRow w.heap.size 75 5 v (0 + ([] : List Run).length) ([] ++ ([] : List Run).flatMap Run.enc)) (hb : Below w.heap.size w w') => show CopyPost 75 5 Run.enc [] w (.returned v) w' from ⟨v, rfl, ho, hb⟩)
  have q22 : ∀ (w : World) (a : Option Addr) (n c n' c' : Nat), (binOp .eql 76 (.slice a n c) (.slice none n' c')).run Tryz.prog w = .ok (.bool a.isNone) w := fun w a n c n' c' => Lib.run_eql_slice_nil w _ _ a n c n' c' Tryz.underlying76
  obtain ⟨j0, hj, hy0, hy1, hy2⟩ := info_parts Tryz.info75
  have JI := Lib.hid hj; have J0 := Lib.hid hy0; have J1 := Lib.hid hy1; have J2 := Lib.hid hy2
  generalize CopyPost 75 5 Run.enc [] w = Q at *
  clear hj hy0 hy1 hy2
  go_enter Tryz.func168, Tryz.ntmps168
  go_wp2_with (at_builtin; refine wpList_append_slice (enc := Run.enc) (Ok := Flat) _ rfl (.tmp 5) (.tmp 6) 76 rfl w.heap.size 75 j0 _ 5 40 Tryz.underlying76 JI.out J0.out J1.out J2.out rfl (by decide) (fun _ => rfl) Run.one _ 0 [] rfl (World.ownsRow_made w #[] 0 (Nat.le_refl _) (Nat.zero_le _) (by simp)) (some ad) c [] rfl (.inl rfl) ?h63 ?hb ?hbase ?_)
  try (case h63 => decide)
  try (case hb => decide)
  try (case hbase => simp)
  intro v' w' ho hg _
  have HO := Lib.hid ho
  have HB := Lib.hid (show Below w.heap.size w w' from ((Below.refl _ _).alloc (Nat.le_refl _) _).grown hg (by simp) (fun j hj => by simp [Value.ownBlock] at hj; omega))
  clear ho hg
  go_wp2_with fail
  exact HE.out _ _ HO.out HB.out
theorem clone168_calls {Ok : World → Run → Prop} (a : Option Addr) (cap : Nat) (xs : List Run) (w : World) (h : SliceOf 5 Run.enc Ok w a xs) (hl : xs.length ≤ 4000000) : Calls Tryz.prog 168 #[.slice a xs.length cap] w (CopyPost 75 5 Run.enc xs w) := by
  rcases xs with _ | ⟨x0, xl⟩
  · cases a with
    | none => exact (Tryz.slices_Clone_nil_f168 0 cap w).mono fun e w' ⟨he, hw⟩ => ⟨_, he, World.ownsRow_nil _ _ _ _, hw ▸ Below.refl _ _⟩
    | some ad => exact clone168_empty ad cap w
  · obtain ⟨b, off, x, rfl, _⟩ := h.at_ (show 0 < (x0 :: xl).length by simp)
    obtain ⟨j0, hj, hy0, hy1, hy2⟩ := info_parts Tryz.info75
    exact (Tryz.slices_Clone_f168 j0 _ 5 40 hj hy0 hy1 hy2 rfl (by decide) (fun w => by kernel_rfl) b off (x0 :: xl).length cap ((x0 :: xl).flatMap Run.enc) w (flat_len Run.enc 5 (fun _ => rfl) _) (by unfold maxLen; omega) (by omega) (flat_cells (k := 5) (enc := Run.enc) (Ok := Ok) (fun _ => rfl) h) (flat_one (enc := Run.enc) Run.one _)).mono fun e w' ⟨v, he, ho, _, hb⟩ => ⟨v, he, ho, hb⟩
theorem Tryz.info44 : (Tryz.prog.info? 44).map (fun i => (i.zero, i.size, i.bytes)) = some (some (.agg #[.string ⟨#[]⟩, .int .i64 0, .int .i64 0, .int .i64 0, .int .i64 0, .int .u8 0, .bool false]), 7, 56) := by kernel_rfl
theorem Reg.one : ∀ (x : Reg) (v : Value), v ∈ x.enc → v.oneCell' = true := by
  intro x v hv
  simp only [Reg.enc, List.mem_cons, List.not_mem_nil, or_false] at hv
  rcases hv with rfl | rfl | rfl | rfl | rfl | rfl | rfl <;> rfl
set_option maxRecDepth 100000 in
theorem clone106_empty (ad : Addr) (c : Nat) (w : World) : Calls Tryz.prog 106 #[.slice (some ad) 0 c] w (CopyPost 44 7 Reg.enc [] w) := by
  have HE := Lib.hid (fun (v : Value) (w' : World) (ho : w'.ownsRow w.heap.size 44 7 v (0 + ([] : List Reg).length) ([] ++ ([] : List Reg).flatMap Reg.enc)) (hb : Below w.heap.size w w') => show CopyPost 44 7 Reg.enc [] w (.returned v) w' from ⟨v, rfl, ho, hb⟩)
  have q22 : ∀ (w : World) (a : Option Addr) (n c n' c' : Nat), (binOp .eql 23 (.slice a n c) (.slice none n' c')).run Tryz.prog w = .ok (.bool a.isNone) w := fun w a n c n' c' => Lib.run_eql_slice_nil w _ _ a n c n' c' Tryz.underlying23
  obtain ⟨j0, hj, hy0, hy1, hy2⟩ := info_parts Tryz.info44
  have JI := Lib.hid hj; have J0 := Lib.hid hy0; have J1 := Lib.hid hy1; have J2 := Lib.hid hy2
  generalize CopyPost 44 7 Reg.enc [] w = Q at *
  clear hj hy0 hy1 hy2
  go_enter Tryz.func106, Tryz.ntmps106
  go_wp2_with (at_builtin; refine wpList_append_slice (enc := Reg.enc) (Ok := Flat) _ rfl (.tmp 5) (.tmp 6) 23 rfl w.heap.size 44 j0 _ 7 56 Tryz.underlying23 JI.out J0.out J1.out J2.out rfl (by decide) (fun _ => rfl) Reg.one _ 0 [] rfl (World.ownsRow_made w #[] 0 (Nat.le_refl _) (Nat.zero_le _) (by simp)) (some ad) c [] rfl (.inl rfl) ?h63 ?hb ?hbase ?_)
  try (case h63 => decide)
  try (case hb => decide)
  try (case hbase => simp)
  intro v' w' ho hg _
  have HO := Lib.hid ho
  have HB := Lib.hid (show Below w.heap.size w w' from ((Below.refl _ _).alloc (Nat.le_refl _) _).grown hg (by simp) (fun j hj => by simp [Value.ownBlock] at hj; omega))
  clear ho hg
  go_wp2_with fail
  exact HE.out _ _ HO.out HB.out
theorem clone106_calls {Ok : World → Reg → Prop} (a : Option Addr) (cap : Nat) (xs : List Reg) (w : World) (h : SliceOf 7 Reg.enc Ok w a xs) (hl : xs.length ≤ 4000000) : Calls Tryz.prog 106 #[.slice a xs.length cap] w (CopyPost 44 7 Reg.enc xs w) := by
  rcases xs with _ | ⟨x0, xl⟩
  · cases a with
    | none => exact (Tryz.slices_Clone_nil_f106 0 cap w).mono fun e w' ⟨he, hw⟩ => ⟨_, he, World.ownsRow_nil _ _ _ _, hw ▸ Below.refl _ _⟩
    | some ad => exact clone106_empty ad cap w
  · obtain ⟨b, off, x, rfl, _⟩ := h.at_ (show 0 < (x0 :: xl).length by simp)
    obtain ⟨j0, hj, hy0, hy1, hy2⟩ := info_parts Tryz.info44
    exact (Tryz.slices_Clone_f106 j0 _ 7 56 hj hy0 hy1 hy2 rfl (by decide) (fun w => by kernel_rfl) b off (x0 :: xl).length cap ((x0 :: xl).flatMap Reg.enc) w (flat_len Reg.enc 7 (fun _ => rfl) _) (by unfold maxLen; omega) (by omega) (flat_cells (k := 7) (enc := Reg.enc) (Ok := Ok) (fun _ => rfl) h) (flat_one (enc := Reg.enc) Reg.one _)).mono fun e w' ⟨v, he, ho, _, hb⟩ => ⟨v, he, ho, hb⟩
theorem Tryz.info52 : (Tryz.prog.info? 52).map (fun i => (i.zero, i.size, i.bytes)) = some (some (.agg #[.int .i64 0, .int .i64 0, .int .i64 0, .int .i64 0, .string ⟨#[]⟩, .string ⟨#[]⟩, .bool false, .bool false]), 8, 72) := by kernel_rfl
theorem Cm.one : ∀ (x : Cm) (v : Value), v ∈ x.enc → v.oneCell' = true := by
  intro x v hv
  simp only [Cm.enc, List.mem_cons, List.not_mem_nil, or_false] at hv
  rcases hv with rfl | rfl | rfl | rfl | rfl | rfl | rfl | rfl <;> rfl
set_option maxRecDepth 100000 in
theorem clone107_empty (ad : Addr) (c : Nat) (w : World) : Calls Tryz.prog 107 #[.slice (some ad) 0 c] w (CopyPost 52 8 Cm.enc [] w) := by
  have HE := Lib.hid (fun (v : Value) (w' : World) (ho : w'.ownsRow w.heap.size 52 8 v (0 + ([] : List Cm).length) ([] ++ ([] : List Cm).flatMap Cm.enc)) (hb : Below w.heap.size w w') => show CopyPost 52 8 Cm.enc [] w (.returned v) w' from ⟨v, rfl, ho, hb⟩)
  have q22 : ∀ (w : World) (a : Option Addr) (n c n' c' : Nat), (binOp .eql 25 (.slice a n c) (.slice none n' c')).run Tryz.prog w = .ok (.bool a.isNone) w := fun w a n c n' c' => Lib.run_eql_slice_nil w _ _ a n c n' c' Tryz.underlying25
  obtain ⟨j0, hj, hy0, hy1, hy2⟩ := info_parts Tryz.info52
  have JI := Lib.hid hj; have J0 := Lib.hid hy0; have J1 := Lib.hid hy1; have J2 := Lib.hid hy2
  generalize CopyPost 52 8 Cm.enc [] w = Q at *
  clear hj hy0 hy1 hy2
  go_enter Tryz.func107, Tryz.ntmps107
  go_wp2_with (at_builtin; refine wpList_append_slice (enc := Cm.enc) (Ok := Flat) _ rfl (.tmp 5) (.tmp 6) 25 rfl w.heap.size 52 j0 _ 8 72 Tryz.underlying25 JI.out J0.out J1.out J2.out rfl (by decide) (fun _ => rfl) Cm.one _ 0 [] rfl (World.ownsRow_made w #[] 0 (Nat.le_refl _) (Nat.zero_le _) (by simp)) (some ad) c [] rfl (.inl rfl) ?h63 ?hb ?hbase ?_)
  try (case h63 => decide)
  try (case hb => decide)
  try (case hbase => simp)
  intro v' w' ho hg _
  have HO := Lib.hid ho
  have HB := Lib.hid (show Below w.heap.size w w' from ((Below.refl _ _).alloc (Nat.le_refl _) _).grown hg (by simp) (fun j hj => by simp [Value.ownBlock] at hj; omega))
  clear ho hg
  go_wp2_with fail
  exact HE.out _ _ HO.out HB.out
theorem clone107_calls {Ok : World → Cm → Prop} (a : Option Addr) (cap : Nat) (xs : List Cm) (w : World) (h : SliceOf 8 Cm.enc Ok w a xs) (hl : xs.length ≤ 4000000) : Calls Tryz.prog 107 #[.slice a xs.length cap] w (CopyPost 52 8 Cm.enc xs w) := by
  rcases xs with _ | ⟨x0, xl⟩
  · cases a with
    | none => exact (Tryz.slices_Clone_nil_f107 0 cap w).mono fun e w' ⟨he, hw⟩ => ⟨_, he, World.ownsRow_nil _ _ _ _, hw ▸ Below.refl _ _⟩
    | some ad => exact clone107_empty ad cap w
  · obtain ⟨b, off, x, rfl, _⟩ := h.at_ (show 0 < (x0 :: xl).length by simp)
    obtain ⟨j0, hj, hy0, hy1, hy2⟩ := info_parts Tryz.info52
    exact (Tryz.slices_Clone_f107 j0 _ 8 72 hj hy0 hy1 hy2 rfl (by decide) (fun w => by kernel_rfl) b off (x0 :: xl).length cap ((x0 :: xl).flatMap Cm.enc) w (flat_len Cm.enc 8 (fun _ => rfl) _) (by unfold maxLen; omega) (by omega) (flat_cells (k := 8) (enc := Cm.enc) (Ok := Ok) (fun _ => rfl) h) (flat_one (enc := Cm.enc) Cm.one _)).mono fun e w' ⟨v, he, ho, _, hb⟩ => ⟨v, he, ho, hb⟩
theorem Tryz.info50 : (Tryz.prog.info? 50).map (fun i => (i.zero, i.size, i.bytes)) = some (some (.agg #[.int .i64 0, .int .i64 0, .int .i64 0, .string ⟨#[]⟩, .int .u8 0, .string ⟨#[]⟩, .slice none 0 0]), 7, 88) := by kernel_rfl
theorem Ev.one : ∀ (x : Ev) (v : Value), v ∈ x.enc → v.oneCell' = true := by
  intro x v hv
  simp only [Ev.enc, List.mem_cons, List.not_mem_nil, or_false] at hv
  rcases hv with rfl | rfl | rfl | rfl | rfl | rfl | rfl <;> rfl
set_option maxRecDepth 100000 in
theorem clone108_empty (ad : Addr) (c : Nat) (w : World) : Calls Tryz.prog 108 #[.slice (some ad) 0 c] w (CopyPost 50 7 Ev.enc [] w) := by
  have HE := Lib.hid (fun (v : Value) (w' : World) (ho : w'.ownsRow w.heap.size 50 7 v (0 + ([] : List Ev).length) ([] ++ ([] : List Ev).flatMap Ev.enc)) (hb : Below w.heap.size w w') => show CopyPost 50 7 Ev.enc [] w (.returned v) w' from ⟨v, rfl, ho, hb⟩)
  have q22 : ∀ (w : World) (a : Option Addr) (n c n' c' : Nat), (binOp .eql 24 (.slice a n c) (.slice none n' c')).run Tryz.prog w = .ok (.bool a.isNone) w := fun w a n c n' c' => Lib.run_eql_slice_nil w _ _ a n c n' c' Tryz.underlying24
  obtain ⟨j0, hj, hy0, hy1, hy2⟩ := info_parts Tryz.info50
  have JI := Lib.hid hj; have J0 := Lib.hid hy0; have J1 := Lib.hid hy1; have J2 := Lib.hid hy2
  generalize CopyPost 50 7 Ev.enc [] w = Q at *
  clear hj hy0 hy1 hy2
  go_enter Tryz.func108, Tryz.ntmps108
  go_wp2_with (at_builtin; refine wpList_append_slice (enc := Ev.enc) (Ok := Flat) _ rfl (.tmp 5) (.tmp 6) 24 rfl w.heap.size 50 j0 _ 7 88 Tryz.underlying24 JI.out J0.out J1.out J2.out rfl (by decide) (fun _ => rfl) Ev.one _ 0 [] rfl (World.ownsRow_made w #[] 0 (Nat.le_refl _) (Nat.zero_le _) (by simp)) (some ad) c [] rfl (.inl rfl) ?h63 ?hb ?hbase ?_)
  try (case h63 => decide)
  try (case hb => decide)
  try (case hbase => simp)
  intro v' w' ho hg _
  have HO := Lib.hid ho
  have HB := Lib.hid (show Below w.heap.size w w' from ((Below.refl _ _).alloc (Nat.le_refl _) _).grown hg (by simp) (fun j hj => by simp [Value.ownBlock] at hj; omega))
  clear ho hg
  go_wp2_with fail
  exact HE.out _ _ HO.out HB.out
theorem clone108_calls {Ok : World → Ev → Prop} (a : Option Addr) (cap : Nat) (xs : List Ev) (w : World) (h : SliceOf 7 Ev.enc Ok w a xs) (hl : xs.length ≤ 4000000) : Calls Tryz.prog 108 #[.slice a xs.length cap] w (CopyPost 50 7 Ev.enc xs w) := by
  rcases xs with _ | ⟨x0, xl⟩
  · cases a with
    | none => exact (Tryz.slices_Clone_nil_f108 0 cap w).mono fun e w' ⟨he, hw⟩ => ⟨_, he, World.ownsRow_nil _ _ _ _, hw ▸ Below.refl _ _⟩
    | some ad => exact clone108_empty ad cap w
  · obtain ⟨b, off, x, rfl, _⟩ := h.at_ (show 0 < (x0 :: xl).length by simp)
    obtain ⟨j0, hj, hy0, hy1, hy2⟩ := info_parts Tryz.info50
    exact (Tryz.slices_Clone_f108 j0 _ 7 88 hj hy0 hy1 hy2 rfl (by decide) (fun w => by kernel_rfl) b off (x0 :: xl).length cap ((x0 :: xl).flatMap Ev.enc) w (flat_len Ev.enc 7 (fun _ => rfl) _) (by unfold maxLen; omega) (by omega) (flat_cells (k := 7) (enc := Ev.enc) (Ok := Ok) (fun _ => rfl) h) (flat_one (enc := Ev.enc) Ev.one _)).mono fun e w' ⟨v, he, ho, _, hb⟩ => ⟨v, he, ho, hb⟩
end Go.Proofs.YtnlnmbcaongehaaGreatDoor
namespace Go.Proofs
open Go.Shelf
def Tryz.lays156_ren : Go.Shelf.Ren := ⟨fun | 156 => 68 | 165 => 123 | 166 => 67 | 169 => 69 | 240 => 122 | 241 => 194 | 276 => 193 | 277 => 256 | n => n, fun | 31 => 55 | 9 => 9 | 3 => 3 | 4 => 4 | 0 => 0 | 20 => 20 | 72 => 123 | 76 => 127 | 70 => 120 | 37 => 121 | 75 => 126 | 127 => 182 | 164 => 257 | 5 => 5 | 80 => 130 | n => n, fun | n => n⟩
theorem Tryz.lays156 : Go.Proofs.Lays.n156 Tryz.prog Tryz.lays156_ren := {
  mixed := by kernel_rfl
  f156 := Tryz.func68.trans (congrArg some (by kernel_rfl))
  f165 := Tryz.func123.trans (congrArg some (by kernel_rfl))
  f166 := Tryz.func67.trans (congrArg some (by kernel_rfl))
  f169 := Tryz.func69.trans (congrArg some (by kernel_rfl))
  f240 := Tryz.func122.trans (congrArg some (by kernel_rfl))
  f241 := Tryz.func194.trans (congrArg some (by kernel_rfl))
  f276 := Tryz.func193.trans (congrArg some (by kernel_rfl))
  f277 := Tryz.func256.trans (congrArg some (by kernel_rfl))
  t0 := Tryz.underlying0
  a0 := Tryz.isAgg0
  z0 := Tryz.sizeOf0
  v0 := Tryz.zeroValue0
  t3 := Tryz.underlying3
  a3 := Tryz.isAgg3
  z3 := Tryz.sizeOf3
  v3 := Tryz.zeroValue3
  t4 := Tryz.underlying4
  a4 := Tryz.isAgg4
  z4 := Tryz.sizeOf4
  v4 := Tryz.zeroValue4
  t9 := Tryz.underlying9
  a9 := Tryz.isAgg9
  z9 := Tryz.sizeOf9
  v9 := Tryz.zeroValue9
  t20 := Tryz.underlying20
  a20 := Tryz.isAgg20
  z20 := Tryz.sizeOf20
  v20 := Tryz.zeroValue20
  t31 := Tryz.underlying55
  a31 := Tryz.isAgg55
  z31 := Tryz.sizeOf55
  v31 := Tryz.zeroValue55
  t37 := Tryz.underlying121
  a37 := Tryz.isAgg121
  z37 := Tryz.sizeOf121
  v37 := Tryz.zeroValue121
  t70 := Tryz.underlying120
  a70 := Tryz.isAgg120
  z70 := Tryz.sizeOf120
  v70 := Tryz.zeroValue120
  t72 := Tryz.underlying123
  a72 := Tryz.isAgg123
  z72 := Tryz.sizeOf123
  v72 := Tryz.zeroValue123
  t75 := Tryz.underlying126
  a75 := Tryz.isAgg126
  z75 := Tryz.sizeOf126
  v75 := Tryz.zeroValue126
  t76 := Tryz.underlying127
  a76 := Tryz.isAgg127
  z76 := Tryz.sizeOf127
  v76 := Tryz.zeroValue127
  t127 := Tryz.underlying182
  a127 := Tryz.isAgg182
  z127 := Tryz.sizeOf182
  v127 := Tryz.zeroValue182
  t164 := Tryz.underlying257
  a164 := Tryz.isAgg257
  z164 := Tryz.sizeOf257
  v164 := Tryz.zeroValue257 }
theorem Tryz.Builder_Extra_156 : Builder.Extra Tryz.prog Tryz.lays156_ren := {
  sizeBuilder := by kernel_rfl
  liesBuilder := by kernel_rfl
  t5 := Tryz.underlying5
  a5 := Tryz.isAgg5
  z5 := Tryz.sizeOf5
  v5 := Tryz.zeroValue5
  infoByte := by kernel_rfl
  cellsByte := by kernel_rfl
  sizeByte := by kernel_rfl
  neB5 := by decide }
open Go.RowKit in
/-- strings.Join: "Join concatenates the elements of its first argument to create a single string. The separator string sep is placed between elements in the resulting string.": HOWEVER MANY ELEMENTS. Below the heap's end the world is as it was. (LAID: no walk: one application.) -/
theorem Tryz.strings_Join (bk o c : Nat) (xs : List ByteArray) (sep : ByteArray) (w : World) (hcells : ∀ (j : Nat) x, xs[j]? = some x → w.cell? ⟨bk, o + j, none⟩ = some (.string x)) (hbk : bk < w.heap.size) (hN : xs.length ≤ 140737488355328) (hcap : xs.length ≤ c) (hlen : (Lib.join (xs.map (·.data.toList)) sep.data.toList).length ≤ 140737488355328) :
    Calls Tryz.prog 68 #[.slice (some ⟨bk, o, none⟩) xs.length c, .string sep] w fun e w' => e = .returned (.string ⟨(Lib.join (xs.map (·.data.toList)) sep.data.toList).toArray⟩) ∧ Below w.heap.size w w' := Any.strings_Join Tryz.lays156 Tryz.Builder_Extra_156 bk o c xs sep w hcells hbk hN hcap hlen
def Tryz.laysM173_ren : Go.Shelf.Ren := ⟨fun | 173 => 121 | 246 => 192 | 283 => 252 | 284 => 253 | 285 => 254 | 286 => 255 | 129 => 229 | 317 => 281 | 318 => 282 | 319 => 283 | 320 => 284 | 337 => 293 | 338 => 294 | n => n, fun | 2 => 2 | 3 => 3 | 9 => 9 | 4 => 4 | 171 => 307 | 0 => 0 | 53 => 259 | 37 => 121 | 5 => 5 | 173 => 309 | 212 => 337 | 51 => 290 | 20 => 20 | 213 => 338 | 46 => 238 | 232 => 349 | 233 => 350 | n => n, fun | 17 => 2 | 18 => 4 | 19 => 5 | n => n⟩
theorem Tryz.laysM173 : Go.Proofs.LaysM.n173 Tryz.prog Tryz.laysM173_ren := {
  mixed := by kernel_rfl
  f129 := Tryz.func229.trans (congrArg some (by kernel_rfl))
  f173 := Tryz.func121.trans (congrArg some (by kernel_rfl))
  f246 := Tryz.func192.trans (congrArg some (by kernel_rfl))
  f283 := Tryz.func252.trans (congrArg some (by kernel_rfl))
  f284 := Tryz.func253.trans (congrArg some (by kernel_rfl))
  f285 := Tryz.func254.trans (congrArg some (by kernel_rfl))
  f286 := Tryz.func255.trans (congrArg some (by kernel_rfl))
  f317 := Tryz.func281.trans (congrArg some (by kernel_rfl))
  f318 := Tryz.func282.trans (congrArg some (by kernel_rfl))
  f319 := Tryz.func283.trans (congrArg some (by kernel_rfl))
  f320 := Tryz.func284.trans (congrArg some (by kernel_rfl))
  f337 := Tryz.func293.trans (congrArg some (by kernel_rfl))
  f338 := Tryz.func294.trans (congrArg some (by kernel_rfl))
  t0 := Tryz.underlying0
  a0 := Tryz.isAgg0
  z0 := Tryz.sizeOf0
  v0 := Tryz.zeroValue0
  t2 := Tryz.underlying2
  a2 := Tryz.isAgg2
  z2 := Tryz.sizeOf2
  v2 := Tryz.zeroValue2
  t3 := Tryz.underlying3
  a3 := Tryz.isAgg3
  z3 := Tryz.sizeOf3
  v3 := Tryz.zeroValue3
  t4 := Tryz.underlying4
  a4 := Tryz.isAgg4
  z4 := Tryz.sizeOf4
  v4 := Tryz.zeroValue4
  t5 := Tryz.underlying5
  a5 := Tryz.isAgg5
  z5 := Tryz.sizeOf5
  v5 := Tryz.zeroValue5
  t9 := Tryz.underlying9
  a9 := Tryz.isAgg9
  z9 := Tryz.sizeOf9
  v9 := Tryz.zeroValue9
  t20 := Tryz.underlying20
  a20 := Tryz.isAgg20
  z20 := Tryz.sizeOf20
  v20 := Tryz.zeroValue20
  t37 := Tryz.underlying121
  a37 := Tryz.isAgg121
  z37 := Tryz.sizeOf121
  v37 := Tryz.zeroValue121
  t46 := Tryz.underlying238
  a46 := Tryz.isAgg238
  z46 := Tryz.sizeOf238
  v46 := Tryz.zeroValue238
  t51 := Tryz.underlying290
  a51 := Tryz.isAgg290
  z51 := Tryz.sizeOf290
  v51 := Tryz.zeroValue290
  t53 := Tryz.underlying259
  a53 := Tryz.isAgg259
  z53 := Tryz.sizeOf259
  v53 := Tryz.zeroValue259
  t171 := Tryz.underlying307
  a171 := Tryz.isAgg307
  z171 := Tryz.sizeOf307
  v171 := Tryz.zeroValue307
  t173 := Tryz.underlying309
  a173 := Tryz.isAgg309
  z173 := Tryz.sizeOf309
  v173 := Tryz.zeroValue309
  t212 := Tryz.underlying337
  a212 := Tryz.isAgg337
  z212 := Tryz.sizeOf337
  v212 := Tryz.zeroValue337
  t213 := Tryz.underlying338
  a213 := Tryz.isAgg338
  z213 := Tryz.sizeOf338
  t232 := Tryz.underlying349
  a232 := Tryz.isAgg349
  z232 := Tryz.sizeOf349
  v232 := Tryz.zeroValue349
  t233 := Tryz.underlying350
  a233 := Tryz.isAgg350
  z233 := Tryz.sizeOf350
  v233 := Tryz.zeroValue350
  g17 := by kernel_rfl
  g18 := by kernel_rfl
  g19 := by kernel_rfl
  i0 := by kernel_rfl
  i2 := by kernel_rfl
  i3 := by kernel_rfl
  i4 := by kernel_rfl
  i5 := by kernel_rfl
  i9 := by kernel_rfl
  i20 := by kernel_rfl
  i37 := by kernel_rfl
  i46 := by kernel_rfl
  i51 := by kernel_rfl
  i53 := by kernel_rfl
  i171 := by kernel_rfl
  i173 := by kernel_rfl
  i212 := by kernel_rfl
  i232 := by kernel_rfl
  i233 := by kernel_rfl
  m17 := by kernel_rfl
  m18 := by kernel_rfl
  m19 := by kernel_rfl }
open Go.RowKit Go.Sort Go.Lib in
/-- strconv.FormatInt: "FormatInt returns the string representation of i in the given base": AT BASE 10: i's decimal numeral, for every int64. (LAID: no walk: one application.) -/
theorem Tryz.strconv_FormatInt_10 (n : Int) (h0 : -9223372036854775808 ≤ n) (h1 : n ≤ 9223372036854775807) (w : World) (htab : Lib.TabIs Tryz.prog w "internal/strconv.uint64pow10" .u64 Lib.pow10Tab) :
    Calls Tryz.prog 121 #[.int .i64 n, .int .i64 10] w fun e w' => e = .returned (.string ⟨(Lib.itoa n).toArray⟩) ∧ ∃ k os, w' = grow (w.drewN k) os := Any.strconv_FormatInt_10 Tryz.laysM173 n h0 h1 w htab
def Tryz.laysSlM5_f94_ren : Go.Shelf.Ren := ⟨fun | 5 => 94 | 8 => 164 | 7 => 166 | 19 => 228 | 20 => 229 | 10 => 230 | 11 => 231 | 12 => 232 | 13 => 233 | 14 => 234 | 15 => 235 | 16 => 236 | 17 => 237 | 18 => 238 | 30 => 271 | 31 => 266 | 32 => 267 | 33 => 272 | 34 => 273 | 35 => 217 | 40 => 288 | n => n, fun | 23 => 85 | 25 => 2 | 3 => 3 | 32 => 238 | 22 => 85 | 0 => 0 | 44 => 290 | 46 => 259 | 4 => 4 | 36 => 284 | 35 => 283 | 41 => 156 | 5 => 5 | 9 => 9 | 53 => 325 | 57 => 329 | 63 => 341 | 64 => 342 | n => n, fun | n => n⟩
theorem Tryz.laysSlM5_f94 : Go.Proofs.SlLaysM.n5 Tryz.prog Tryz.laysSlM5_f94_ren := {
  mixed := by kernel_rfl
  f5 := ⟨Tryz.f94.name, by decide, Tryz.func94.trans (congrArg some (by kernel_rfl))⟩
  f7 := ⟨Tryz.f166.name, by decide, Tryz.func166.trans (congrArg some (by kernel_rfl))⟩
  f8 := Tryz.func164.trans (congrArg some (by kernel_rfl))
  f10 := ⟨Tryz.f230.name, by decide, Tryz.func230.trans (congrArg some (by kernel_rfl))⟩
  f11 := ⟨Tryz.f231.name, by decide, Tryz.func231.trans (congrArg some (by kernel_rfl))⟩
  f12 := ⟨Tryz.f232.name, by decide, Tryz.func232.trans (congrArg some (by kernel_rfl))⟩
  f13 := ⟨Tryz.f233.name, by decide, Tryz.func233.trans (congrArg some (by kernel_rfl))⟩
  f14 := ⟨Tryz.f234.name, by decide, Tryz.func234.trans (congrArg some (by kernel_rfl))⟩
  f15 := ⟨Tryz.f235.name, by decide, Tryz.func235.trans (congrArg some (by kernel_rfl))⟩
  f16 := ⟨Tryz.f236.name, by decide, Tryz.func236.trans (congrArg some (by kernel_rfl))⟩
  f17 := ⟨Tryz.f237.name, by decide, Tryz.func237.trans (congrArg some (by kernel_rfl))⟩
  f18 := ⟨Tryz.f238.name, by decide, Tryz.func238.trans (congrArg some (by kernel_rfl))⟩
  f19 := Tryz.func228.trans (congrArg some (by kernel_rfl))
  f20 := Tryz.func229.trans (congrArg some (by kernel_rfl))
  f30 := ⟨Tryz.f271.name, by decide, Tryz.func271.trans (congrArg some (by kernel_rfl))⟩
  f31 := Tryz.func266.trans (congrArg some (by kernel_rfl))
  f32 := Tryz.func267.trans (congrArg some (by kernel_rfl))
  f33 := ⟨Tryz.f272.name, by decide, Tryz.func272.trans (congrArg some (by kernel_rfl))⟩
  f34 := ⟨Tryz.f273.name, by decide, Tryz.func273.trans (congrArg some (by kernel_rfl))⟩
  f35 := ⟨Tryz.f217.name, by decide, Tryz.func217.trans (congrArg some (by kernel_rfl))⟩
  f40 := ⟨Tryz.f288.name, by decide, Tryz.func288.trans (congrArg some (by kernel_rfl))⟩
  t0 := Tryz.underlying0
  a0 := Tryz.isAgg0
  z0 := Tryz.sizeOf0
  v0 := Tryz.zeroValue0
  t3 := Tryz.underlying3
  a3 := Tryz.isAgg3
  z3 := Tryz.sizeOf3
  v3 := Tryz.zeroValue3
  t4 := Tryz.underlying4
  a4 := Tryz.isAgg4
  z4 := Tryz.sizeOf4
  v4 := Tryz.zeroValue4
  t5 := Tryz.underlying5
  a5 := Tryz.isAgg5
  z5 := Tryz.sizeOf5
  v5 := Tryz.zeroValue5
  t9 := Tryz.underlying9
  a9 := Tryz.isAgg9
  z9 := Tryz.sizeOf9
  v9 := Tryz.zeroValue9
  t22 := Tryz.underlying85
  a22 := Tryz.isAgg85
  z22 := Tryz.sizeOf85
  v22 := Tryz.zeroValue85
  t23 := Tryz.underlying85
  a23 := Tryz.isAgg85
  z23 := Tryz.sizeOf85
  v23 := Tryz.zeroValue85
  t25 := Tryz.underlying2
  a25 := Tryz.isAgg2
  z25 := Tryz.sizeOf2
  v25 := Tryz.zeroValue2
  t32 := Tryz.underlying238
  a32 := Tryz.isAgg238
  z32 := Tryz.sizeOf238
  v32 := Tryz.zeroValue238
  t35 := Tryz.underlying283
  a35 := Tryz.isAgg283
  z35 := Tryz.sizeOf283
  v35 := Tryz.zeroValue283
  t36 := Tryz.underlying284
  a36 := Tryz.isAgg284
  z36 := Tryz.sizeOf284
  v36 := Tryz.zeroValue284
  t41 := Tryz.underlying156
  a41 := Tryz.isAgg156
  z41 := Tryz.sizeOf156
  v41 := Tryz.zeroValue156
  t44 := Tryz.underlying290
  a44 := Tryz.isAgg290
  z44 := Tryz.sizeOf290
  v44 := Tryz.zeroValue290
  t46 := Tryz.underlying259
  a46 := Tryz.isAgg259
  z46 := Tryz.sizeOf259
  v46 := Tryz.zeroValue259
  t53 := Tryz.underlying325
  a53 := Tryz.isAgg325
  z53 := Tryz.sizeOf325
  v53 := Tryz.zeroValue325
  t57 := Tryz.underlying329
  a57 := Tryz.isAgg329
  z57 := Tryz.sizeOf329
  v57 := Tryz.zeroValue329
  t63 := Tryz.underlying341
  a63 := Tryz.isAgg341
  z63 := Tryz.sizeOf341
  v63 := Tryz.zeroValue341
  t64 := Tryz.underlying342
  a64 := Tryz.isAgg342
  z64 := Tryz.sizeOf342
  v64 := Tryz.zeroValue342 }
open Go.Sort Go.RowKit in
theorem Tryz.slices_Sort_int (blk off cap : Nat) (zs : List Int) (w : World) (hH : Holds (Value.int .i64) w blk off zs.toArray) (hblk : blk < w.heap.size) (hsz : zs.length < 4611686018427387904) :
    Calls Tryz.prog 94 #[.slice (some ⟨blk, off, none⟩) zs.length cap] w fun e w' =>
      e = .returned (.tuple #[]) ∧ ∃ n os, w' = grow (putRow (Value.int .i64) (Sort.ahead w n) blk off (zs.mergeSort fun x y => decide (x ≤ y)).toArray) os := AnyM.slices_Sort_int Tryz.laysSlM5_f94 blk off cap zs w hH hblk hsz
def Tryz.laysSlM6_f91_ren : Go.Shelf.Ren := ⟨fun | 6 => 91 | 8 => 164 | 9 => 163 | 19 => 228 | 20 => 229 | 21 => 219 | 22 => 220 | 23 => 221 | 24 => 222 | 25 => 223 | 26 => 224 | 27 => 225 | 28 => 226 | 29 => 227 | 36 => 265 | 31 => 266 | 32 => 267 | 37 => 268 | 38 => 269 | 39 => 270 | 41 => 287 | n => n, fun | 27 => 55 | 29 => 9 | 3 => 3 | 32 => 238 | 26 => 55 | 0 => 0 | 44 => 290 | 46 => 259 | 4 => 4 | 36 => 284 | 35 => 283 | 41 => 156 | 5 => 5 | 9 => 9 | 53 => 325 | 57 => 329 | 63 => 341 | 64 => 342 | n => n, fun | n => n⟩
theorem Tryz.laysSlM6_f91 : Go.Proofs.SlLaysM.n6 Tryz.prog Tryz.laysSlM6_f91_ren := {
  mixed := by kernel_rfl
  f6 := ⟨Tryz.f91.name, by decide, Tryz.func91.trans (congrArg some (by kernel_rfl))⟩
  f8 := Tryz.func164.trans (congrArg some (by kernel_rfl))
  f9 := ⟨Tryz.f163.name, by decide, Tryz.func163.trans (congrArg some (by kernel_rfl))⟩
  f19 := Tryz.func228.trans (congrArg some (by kernel_rfl))
  f20 := Tryz.func229.trans (congrArg some (by kernel_rfl))
  f21 := ⟨Tryz.f219.name, by decide, Tryz.func219.trans (congrArg some (by kernel_rfl))⟩
  f22 := ⟨Tryz.f220.name, by decide, Tryz.func220.trans (congrArg some (by kernel_rfl))⟩
  f23 := ⟨Tryz.f221.name, by decide, Tryz.func221.trans (congrArg some (by kernel_rfl))⟩
  f24 := ⟨Tryz.f222.name, by decide, Tryz.func222.trans (congrArg some (by kernel_rfl))⟩
  f25 := ⟨Tryz.f223.name, by decide, Tryz.func223.trans (congrArg some (by kernel_rfl))⟩
  f26 := ⟨Tryz.f224.name, by decide, Tryz.func224.trans (congrArg some (by kernel_rfl))⟩
  f27 := ⟨Tryz.f225.name, by decide, Tryz.func225.trans (congrArg some (by kernel_rfl))⟩
  f28 := ⟨Tryz.f226.name, by decide, Tryz.func226.trans (congrArg some (by kernel_rfl))⟩
  f29 := ⟨Tryz.f227.name, by decide, Tryz.func227.trans (congrArg some (by kernel_rfl))⟩
  f31 := Tryz.func266.trans (congrArg some (by kernel_rfl))
  f32 := Tryz.func267.trans (congrArg some (by kernel_rfl))
  f36 := ⟨Tryz.f265.name, by decide, Tryz.func265.trans (congrArg some (by kernel_rfl))⟩
  f37 := ⟨Tryz.f268.name, by decide, Tryz.func268.trans (congrArg some (by kernel_rfl))⟩
  f38 := ⟨Tryz.f269.name, by decide, Tryz.func269.trans (congrArg some (by kernel_rfl))⟩
  f39 := ⟨Tryz.f270.name, by decide, Tryz.func270.trans (congrArg some (by kernel_rfl))⟩
  f41 := ⟨Tryz.f287.name, by decide, Tryz.func287.trans (congrArg some (by kernel_rfl))⟩
  t0 := Tryz.underlying0
  a0 := Tryz.isAgg0
  z0 := Tryz.sizeOf0
  v0 := Tryz.zeroValue0
  t3 := Tryz.underlying3
  a3 := Tryz.isAgg3
  z3 := Tryz.sizeOf3
  v3 := Tryz.zeroValue3
  t4 := Tryz.underlying4
  a4 := Tryz.isAgg4
  z4 := Tryz.sizeOf4
  v4 := Tryz.zeroValue4
  t5 := Tryz.underlying5
  a5 := Tryz.isAgg5
  z5 := Tryz.sizeOf5
  v5 := Tryz.zeroValue5
  t9 := Tryz.underlying9
  a9 := Tryz.isAgg9
  z9 := Tryz.sizeOf9
  v9 := Tryz.zeroValue9
  t26 := Tryz.underlying55
  a26 := Tryz.isAgg55
  z26 := Tryz.sizeOf55
  v26 := Tryz.zeroValue55
  t27 := Tryz.underlying55
  a27 := Tryz.isAgg55
  z27 := Tryz.sizeOf55
  v27 := Tryz.zeroValue55
  t29 := Tryz.underlying9
  a29 := Tryz.isAgg9
  z29 := Tryz.sizeOf9
  v29 := Tryz.zeroValue9
  t32 := Tryz.underlying238
  a32 := Tryz.isAgg238
  z32 := Tryz.sizeOf238
  v32 := Tryz.zeroValue238
  t35 := Tryz.underlying283
  a35 := Tryz.isAgg283
  z35 := Tryz.sizeOf283
  v35 := Tryz.zeroValue283
  t36 := Tryz.underlying284
  a36 := Tryz.isAgg284
  z36 := Tryz.sizeOf284
  v36 := Tryz.zeroValue284
  t41 := Tryz.underlying156
  a41 := Tryz.isAgg156
  z41 := Tryz.sizeOf156
  v41 := Tryz.zeroValue156
  t44 := Tryz.underlying290
  a44 := Tryz.isAgg290
  z44 := Tryz.sizeOf290
  v44 := Tryz.zeroValue290
  t46 := Tryz.underlying259
  a46 := Tryz.isAgg259
  z46 := Tryz.sizeOf259
  v46 := Tryz.zeroValue259
  t53 := Tryz.underlying325
  a53 := Tryz.isAgg325
  z53 := Tryz.sizeOf325
  v53 := Tryz.zeroValue325
  t57 := Tryz.underlying329
  a57 := Tryz.isAgg329
  z57 := Tryz.sizeOf329
  v57 := Tryz.zeroValue329
  t63 := Tryz.underlying341
  a63 := Tryz.isAgg341
  z63 := Tryz.sizeOf341
  v63 := Tryz.zeroValue341
  t64 := Tryz.underlying342
  a64 := Tryz.isAgg342
  z64 := Tryz.sizeOf342
  v64 := Tryz.zeroValue342 }
open Go.Sort Go.RowKit in
theorem Tryz.slices_Sort_string (blk off cap : Nat) (ss : List (List UInt8)) (w : World) (hH : Holds encStr w blk off ss.toArray) (hblk : blk < w.heap.size) (hsz : ss.length < 4611686018427387904) :
    Calls Tryz.prog 91 #[.slice (some ⟨blk, off, none⟩) ss.length cap] w fun e w' =>
      e = .returned (.tuple #[]) ∧ ∃ n os, w' = grow (putRow encStr (Sort.ahead w n) blk off (ss.mergeSort fun x y => decide (x ≤ y)).toArray) os := AnyM.slices_Sort_string Tryz.laysSlM6_f91 blk off cap ss w hH hblk hsz
open Go.RowKit Go.Sort in
/-- .. and plain. (LAID AT THE INSTANCE 'slices.Sort[[]string,string]': no walk: one application.) -/
theorem Tryz.slices_Sort_string_none (p : Option Addr) (cap : Nat) (w : World) :
    Calls Tryz.prog 91 #[.slice p 0 cap] w fun e w' => e = .returned (.tuple #[]) ∧ w' = w := AnyM.slices_Sort_string_none Tryz.laysSlM6_f91 p cap w
open Go.RowKit Go.Sort in
/-- .. and plain. (LAID AT THE INSTANCE 'slices.Sort[[]int64,int64]': no walk: one application.) -/
theorem Tryz.slices_Sort_int_none (p : Option Addr) (cap : Nat) (w : World) :
    Calls Tryz.prog 94 #[.slice p 0 cap] w fun e w' => e = .returned (.tuple #[]) ∧ w' = w := AnyM.slices_Sort_int_none Tryz.laysSlM5_f94 p cap w
def Tryz.grow162_ren : Go.Shelf.Ren := ⟨fun | 4 => 162 | n => n, fun | 22 => 23 | 25 => 44 | 3 => 3 | 4 => 4 | 9 => 9 | 20 => 20 | 0 => 0 | n => n, fun | n => n⟩
theorem Tryz.grow162 : Go.Proofs.Lays8.n4 Tryz.prog Tryz.grow162_ren := {
  mixed := by kernel_rfl
  f4 := ⟨Tryz.f162.name, by decide, Tryz.func162.trans (congrArg some (by kernel_rfl))⟩
  t0 := Tryz.underlying0
  a0 := Tryz.isAgg0
  z0 := Tryz.sizeOf0
  v0 := Tryz.zeroValue0
  t3 := Tryz.underlying3
  a3 := Tryz.isAgg3
  z3 := Tryz.sizeOf3
  v3 := Tryz.zeroValue3
  t4 := Tryz.underlying4
  a4 := Tryz.isAgg4
  z4 := Tryz.sizeOf4
  v4 := Tryz.zeroValue4
  t9 := Tryz.underlying9
  a9 := Tryz.isAgg9
  z9 := Tryz.sizeOf9
  v9 := Tryz.zeroValue9
  t20 := Tryz.underlying20
  a20 := Tryz.isAgg20
  z20 := Tryz.sizeOf20
  v20 := Tryz.zeroValue20
  t22 := Tryz.underlying23
  a22 := Tryz.isAgg23
  z22 := Tryz.sizeOf23
  v22 := Tryz.zeroValue23 }
def Tryz.grow165_ren : Go.Shelf.Ren := ⟨fun | 4 => 165 | n => n, fun | 22 => 24 | 25 => 50 | 3 => 3 | 4 => 4 | 9 => 9 | 20 => 20 | 0 => 0 | n => n, fun | n => n⟩
theorem Tryz.grow165 : Go.Proofs.Lays8.n4 Tryz.prog Tryz.grow165_ren := {
  mixed := by kernel_rfl
  f4 := ⟨Tryz.f165.name, by decide, Tryz.func165.trans (congrArg some (by kernel_rfl))⟩
  t0 := Tryz.underlying0
  a0 := Tryz.isAgg0
  z0 := Tryz.sizeOf0
  v0 := Tryz.zeroValue0
  t3 := Tryz.underlying3
  a3 := Tryz.isAgg3
  z3 := Tryz.sizeOf3
  v3 := Tryz.zeroValue3
  t4 := Tryz.underlying4
  a4 := Tryz.isAgg4
  z4 := Tryz.sizeOf4
  v4 := Tryz.zeroValue4
  t9 := Tryz.underlying9
  a9 := Tryz.isAgg9
  z9 := Tryz.sizeOf9
  v9 := Tryz.zeroValue9
  t20 := Tryz.underlying20
  a20 := Tryz.isAgg20
  z20 := Tryz.sizeOf20
  v20 := Tryz.zeroValue20
  t22 := Tryz.underlying24
  a22 := Tryz.isAgg24
  z22 := Tryz.sizeOf24
  v22 := Tryz.zeroValue24 }
def Tryz.grow169_ren : Go.Shelf.Ren := ⟨fun | 4 => 169 | n => n, fun | 22 => 25 | 25 => 52 | 3 => 3 | 4 => 4 | 9 => 9 | 20 => 20 | 0 => 0 | n => n, fun | n => n⟩
theorem Tryz.grow169 : Go.Proofs.Lays8.n4 Tryz.prog Tryz.grow169_ren := {
  mixed := by kernel_rfl
  f4 := ⟨Tryz.f169.name, by decide, Tryz.func169.trans (congrArg some (by kernel_rfl))⟩
  t0 := Tryz.underlying0
  a0 := Tryz.isAgg0
  z0 := Tryz.sizeOf0
  v0 := Tryz.zeroValue0
  t3 := Tryz.underlying3
  a3 := Tryz.isAgg3
  z3 := Tryz.sizeOf3
  v3 := Tryz.zeroValue3
  t4 := Tryz.underlying4
  a4 := Tryz.isAgg4
  z4 := Tryz.sizeOf4
  v4 := Tryz.zeroValue4
  t9 := Tryz.underlying9
  a9 := Tryz.isAgg9
  z9 := Tryz.sizeOf9
  v9 := Tryz.zeroValue9
  t20 := Tryz.underlying20
  a20 := Tryz.isAgg20
  z20 := Tryz.sizeOf20
  v20 := Tryz.zeroValue20
  t22 := Tryz.underlying25
  a22 := Tryz.isAgg25
  z22 := Tryz.sizeOf25
  v22 := Tryz.zeroValue25 }
end Go.Proofs
namespace Go.Proofs.YtnlnmbcaongehaaGreatDoor
open Go.RowKit
theorem growNil162 (n : Nat) (w : World) (hn : n ≤ 8000000) : Calls Tryz.prog 162 #[.slice none 0 0, .int .i64 n] w (CopyPost (α := Reg) 44 7 Reg.enc [] w) := by
  rcases Nat.eq_zero_or_pos n with rfl | h0
  · exact (Any8.slices_Grow_room Tryz.grow162 none 0 0 0 w (Nat.le_refl _) (by omega) (by omega) (by omega)).mono fun e w' ⟨he, hw⟩ => ⟨_, he, World.ownsRow_nil _ _ _ _, hw ▸ Below.refl _ _⟩
  · obtain ⟨j0, hj, hy0, hy1, hy2⟩ := info_parts Tryz.info44
    have h := Any8.slices_Grow_grow Tryz.grow162 j0 _ hj hy0 (by rw [hy1]; decide) none 0 0 n [] w (Nat.le_refl _) (by omega) (by rw [hy2]; omega) (by omega) (by simp) (fun _ => rfl) (fun a ha => by cases ha)
    refine h.mono fun e w' ⟨he, hw⟩ => ⟨_, he, ?_, ?_⟩
    · subst hw
      have hG := grownCap_ge w (0 + n) 0 (Tryz.grow162_ren.t 25)
      have hM := grownCap_le_maxLen w (0 + n) 0 (Tryz.grow162_ren.t 25) (by unfold maxLen; omega)
      refine ⟨rfl, .inr ⟨_, _, _, rfl, Nat.le_refl _, heap_alloc_new w.drew _, Nat.zero_le _, hM, ?_, by simp⟩⟩
      simp only [Nat.zero_add] at hG hM ⊢
      generalize grownCap w n 0 (Tryz.grow162_ren.t 25) = G at *
      simp only [Array.size_append, List.size_toArray, size_zeroCells, Value.cells, List.length_nil]
      simp
      omega
    · subst hw
      exact ((Below.refl _ _).drew).alloc (Nat.le_refl _) _
set_option maxRecDepth 100000 in
set_option maxHeartbeats 3200000 in
theorem concat90_calls {Ok : World → Reg → Prop} (hK : Keeps Ok) (g c1 c2 : Nat) (a1 a2 : Option Addr) (xs ys : List Reg) (w : World) (d0 : w.cell? ⟨g, 0, none⟩ = some (.slice a1 xs.length c1)) (d1 : w.cell? ⟨g, 1, none⟩ = some (.slice a2 ys.length c2)) (hg : g < w.heap.size)
    (h1 : SliceOf 7 Reg.enc Ok w a1 xs) (h2 : SliceOf 7 Reg.enc Ok w a2 ys) (hx : xs.length ≤ 4000000) (hy : ys.length ≤ 4000000) :
    Calls Tryz.prog 90 #[.slice (some ⟨g, 0, none⟩) 2 2] w (CopyPost 44 7 Reg.enc (xs ++ ys) w) := by
  have HG := Lib.hid (growNil162 (xs.length + ys.length) w (by omega))
  have H1 := Lib.hid (fun (w' : World) (hb : Below w.heap.size w w') => SliceOf.keeps hK _ _ _ _ hb h1)
  have H2 := Lib.hid (fun (w' : World) (hb : Below w.heap.size w w') => SliceOf.keeps hK _ _ _ _ hb h2)
  have HQ := Lib.hid (fun (v : Value) (w' : World) (ho : w'.ownsRow w.heap.size 44 7 v (xs.length + ys.length) (xs.flatMap Reg.enc ++ ys.flatMap Reg.enc)) (hb : Below w.heap.size w w') => (show CopyPost 44 7 Reg.enc (xs ++ ys) w (.returned v) w' from ⟨v, rfl, by simpa using ho, hb⟩))
  obtain ⟨j0, hj, hy0, hy1, hy2⟩ := info_parts Tryz.info44
  have JI := Lib.hid hj; have J0 := Lib.hid hy0; have J1 := Lib.hid hy1; have J2 := Lib.hid hy2
  have hp : ¬ ((xs.length : Int) < 0) := by omega
  have hp2 : ¬ ((xs.length : Int) + (ys.length : Int) < 0) := by omega
  generalize CopyPost 44 7 Reg.enc (xs ++ ys) w = Q at *
  clear hj hy0 hy1 hy2 h1 h2
  go_enter Tryz.func90, Tryz.ntmps90
  go_wp2_with fail
  refine wp_loop_rounds 3 ?_
  rw [rounds_succ]
  go_wp2_with fail
  rw [rounds_succ]
  go_wp2_with fail
  rw [rounds_succ]
  go_wp2_with fail
  rw [show ((xs.length : Int) + (ys.length : Int)) = ((xs.length + ys.length : Nat) : Int) by omega]
  refine HG.out.mono ?_
  rintro e w1 ⟨v, rfl, ho1, hb1⟩
  have e0 : w1.cell? ⟨g, 0, none⟩ = some (.slice a1 xs.length c1) := (hb1.cell (p := ⟨g, 0, none⟩) hg).trans d0
  have e1 : w1.cell? ⟨g, 1, none⟩ = some (.slice a2 ys.length c2) := (hb1.cell (p := ⟨g, 1, none⟩) hg).trans d1
  have HO1 := Lib.hid ho1
  have HB1 := Lib.hid hb1
  have hs1 := hb1.size
  clear ho1 hb1 d0 d1 HG
  go_wp2_with fail
  refine wp_loop_rounds 3 ?_
  rw [rounds_succ]
  go_wp2_with (at_builtin; refine wpList_append_slice (enc := Reg.enc) (Ok := Ok) _ rfl (.tmp 31) (.tmp 32) 23 rfl w.heap.size 44 j0 _ 7 56 Tryz.underlying23 JI.out J0.out J1.out J2.out rfl (by decide) (fun _ => rfl) Reg.one _ 0 [] rfl HO1.out a1 c1 xs rfl (H1.out _ HB1.out) ?h63 ?hb ?hbase ?_)
  case h63 => unfold maxLen; omega
  case hb => omega
  case hbase => exact hs1
  intro v2 w2 ho2 hg2 _
  have hb2 : Below w.heap.size w w2 := HB1.out.grown hg2 hs1 (fun j hj => (HO1.out.lt j hj).1)
  have f1 : w2.cell? ⟨g, 1, none⟩ = some (.slice a2 ys.length c2) := hg2.cell e1 (fun e => absurd (HO1.out.lt g e.symm).1 (by omega))
  have HO2 := Lib.hid ho2
  have HB2 := Lib.hid hb2
  have hs2 := hb2.size
  clear ho2 hb2 hg2 e0 e1
  go_wp2_with fail
  rw [rounds_succ]
  go_wp2_with (at_builtin; refine wpList_append_slice (enc := Reg.enc) (Ok := Ok) _ rfl (.tmp 31) (.tmp 32) 23 rfl w.heap.size 44 j0 _ 7 56 Tryz.underlying23 JI.out J0.out J1.out J2.out rfl (by decide) (fun _ => rfl) Reg.one _ _ _ rfl HO2.out a2 c2 ys rfl (H2.out _ HB2.out) ?h63 ?hb ?hbase ?_)
  case h63 => unfold maxLen; omega
  case hb => omega
  case hbase => exact hs2
  intro v3 w3 ho3 hg3 _
  have hb3 : Below w.heap.size w w3 := HB2.out.grown hg3 hs2 (fun j hj => (HO2.out.lt j hj).1)
  have HO3 := Lib.hid ho3
  have HB3 := Lib.hid hb3
  clear ho3 hb3 hg3 f1
  go_wp2_with fail
  rw [rounds_succ]
  go_wp2_with fail
  exact HQ.out v3 _ (by simpa using HO3.out) HB3.out
theorem growNil165 (n : Nat) (w : World) (hn : n ≤ 8000000) : Calls Tryz.prog 165 #[.slice none 0 0, .int .i64 n] w (CopyPost (α := Ev) 50 7 Ev.enc [] w) := by
  rcases Nat.eq_zero_or_pos n with rfl | h0
  · exact (Any8.slices_Grow_room Tryz.grow165 none 0 0 0 w (Nat.le_refl _) (by omega) (by omega) (by omega)).mono fun e w' ⟨he, hw⟩ => ⟨_, he, World.ownsRow_nil _ _ _ _, hw ▸ Below.refl _ _⟩
  · obtain ⟨j0, hj, hy0, hy1, hy2⟩ := info_parts Tryz.info50
    have h := Any8.slices_Grow_grow Tryz.grow165 j0 _ hj hy0 (by rw [hy1]; decide) none 0 0 n [] w (Nat.le_refl _) (by omega) (by rw [hy2]; omega) (by omega) (by simp) (fun _ => rfl) (fun a ha => by cases ha)
    refine h.mono fun e w' ⟨he, hw⟩ => ⟨_, he, ?_, ?_⟩
    · subst hw
      have hG := grownCap_ge w (0 + n) 0 (Tryz.grow165_ren.t 25)
      have hM := grownCap_le_maxLen w (0 + n) 0 (Tryz.grow165_ren.t 25) (by unfold maxLen; omega)
      refine ⟨rfl, .inr ⟨_, _, _, rfl, Nat.le_refl _, heap_alloc_new w.drew _, Nat.zero_le _, hM, ?_, by simp⟩⟩
      simp only [Nat.zero_add] at hG hM ⊢
      generalize grownCap w n 0 (Tryz.grow165_ren.t 25) = G at *
      simp only [Array.size_append, List.size_toArray, size_zeroCells, Value.cells, List.length_nil]
      simp
      omega
    · subst hw
      exact ((Below.refl _ _).drew).alloc (Nat.le_refl _) _
set_option maxRecDepth 100000 in
set_option maxHeartbeats 3200000 in
theorem concat93_calls {Ok : World → Ev → Prop} (hK : Keeps Ok) (g c1 c2 : Nat) (a1 a2 : Option Addr) (xs ys : List Ev) (w : World) (d0 : w.cell? ⟨g, 0, none⟩ = some (.slice a1 xs.length c1)) (d1 : w.cell? ⟨g, 1, none⟩ = some (.slice a2 ys.length c2)) (hg : g < w.heap.size)
    (h1 : SliceOf 7 Ev.enc Ok w a1 xs) (h2 : SliceOf 7 Ev.enc Ok w a2 ys) (hx : xs.length ≤ 4000000) (hy : ys.length ≤ 4000000) :
    Calls Tryz.prog 93 #[.slice (some ⟨g, 0, none⟩) 2 2] w (CopyPost 50 7 Ev.enc (xs ++ ys) w) := by
  have HG := Lib.hid (growNil165 (xs.length + ys.length) w (by omega))
  have H1 := Lib.hid (fun (w' : World) (hb : Below w.heap.size w w') => SliceOf.keeps hK _ _ _ _ hb h1)
  have H2 := Lib.hid (fun (w' : World) (hb : Below w.heap.size w w') => SliceOf.keeps hK _ _ _ _ hb h2)
  have HQ := Lib.hid (fun (v : Value) (w' : World) (ho : w'.ownsRow w.heap.size 50 7 v (xs.length + ys.length) (xs.flatMap Ev.enc ++ ys.flatMap Ev.enc)) (hb : Below w.heap.size w w') => (show CopyPost 50 7 Ev.enc (xs ++ ys) w (.returned v) w' from ⟨v, rfl, by simpa using ho, hb⟩))
  obtain ⟨j0, hj, hy0, hy1, hy2⟩ := info_parts Tryz.info50
  have JI := Lib.hid hj; have J0 := Lib.hid hy0; have J1 := Lib.hid hy1; have J2 := Lib.hid hy2
  have hp : ¬ ((xs.length : Int) < 0) := by omega
  have hp2 : ¬ ((xs.length : Int) + (ys.length : Int) < 0) := by omega
  generalize CopyPost 50 7 Ev.enc (xs ++ ys) w = Q at *
  clear hj hy0 hy1 hy2 h1 h2
  go_enter Tryz.func93, Tryz.ntmps93
  go_wp2_with fail
  refine wp_loop_rounds 3 ?_
  rw [rounds_succ]
  go_wp2_with fail
  rw [rounds_succ]
  go_wp2_with fail
  rw [rounds_succ]
  go_wp2_with fail
  rw [show ((xs.length : Int) + (ys.length : Int)) = ((xs.length + ys.length : Nat) : Int) by omega]
  refine HG.out.mono ?_
  rintro e w1 ⟨v, rfl, ho1, hb1⟩
  have e0 : w1.cell? ⟨g, 0, none⟩ = some (.slice a1 xs.length c1) := (hb1.cell (p := ⟨g, 0, none⟩) hg).trans d0
  have e1 : w1.cell? ⟨g, 1, none⟩ = some (.slice a2 ys.length c2) := (hb1.cell (p := ⟨g, 1, none⟩) hg).trans d1
  have HO1 := Lib.hid ho1
  have HB1 := Lib.hid hb1
  have hs1 := hb1.size
  clear ho1 hb1 d0 d1 HG
  go_wp2_with fail
  refine wp_loop_rounds 3 ?_
  rw [rounds_succ]
  go_wp2_with (at_builtin; refine wpList_append_slice (enc := Ev.enc) (Ok := Ok) _ rfl (.tmp 31) (.tmp 32) 24 rfl w.heap.size 50 j0 _ 7 88 Tryz.underlying24 JI.out J0.out J1.out J2.out rfl (by decide) (fun _ => rfl) Ev.one _ 0 [] rfl HO1.out a1 c1 xs rfl (H1.out _ HB1.out) ?h63 ?hb ?hbase ?_)
  case h63 => unfold maxLen; omega
  case hb => omega
  case hbase => exact hs1
  intro v2 w2 ho2 hg2 _
  have hb2 : Below w.heap.size w w2 := HB1.out.grown hg2 hs1 (fun j hj => (HO1.out.lt j hj).1)
  have f1 : w2.cell? ⟨g, 1, none⟩ = some (.slice a2 ys.length c2) := hg2.cell e1 (fun e => absurd (HO1.out.lt g e.symm).1 (by omega))
  have HO2 := Lib.hid ho2
  have HB2 := Lib.hid hb2
  have hs2 := hb2.size
  clear ho2 hb2 hg2 e0 e1
  go_wp2_with fail
  rw [rounds_succ]
  go_wp2_with (at_builtin; refine wpList_append_slice (enc := Ev.enc) (Ok := Ok) _ rfl (.tmp 31) (.tmp 32) 24 rfl w.heap.size 50 j0 _ 7 88 Tryz.underlying24 JI.out J0.out J1.out J2.out rfl (by decide) (fun _ => rfl) Ev.one _ _ _ rfl HO2.out a2 c2 ys rfl (H2.out _ HB2.out) ?h63 ?hb ?hbase ?_)
  case h63 => unfold maxLen; omega
  case hb => omega
  case hbase => exact hs2
  intro v3 w3 ho3 hg3 _
  have hb3 : Below w.heap.size w w3 := HB2.out.grown hg3 hs2 (fun j hj => (HO2.out.lt j hj).1)
  have HO3 := Lib.hid ho3
  have HB3 := Lib.hid hb3
  clear ho3 hb3 hg3 f1
  go_wp2_with fail
  rw [rounds_succ]
  go_wp2_with fail
  exact HQ.out v3 _ (by simpa using HO3.out) HB3.out
theorem growNil169 (n : Nat) (w : World) (hn : n ≤ 8000000) : Calls Tryz.prog 169 #[.slice none 0 0, .int .i64 n] w (CopyPost (α := Cm) 52 8 Cm.enc [] w) := by
  rcases Nat.eq_zero_or_pos n with rfl | h0
  · exact (Any8.slices_Grow_room Tryz.grow169 none 0 0 0 w (Nat.le_refl _) (by omega) (by omega) (by omega)).mono fun e w' ⟨he, hw⟩ => ⟨_, he, World.ownsRow_nil _ _ _ _, hw ▸ Below.refl _ _⟩
  · obtain ⟨j0, hj, hy0, hy1, hy2⟩ := info_parts Tryz.info52
    have h := Any8.slices_Grow_grow Tryz.grow169 j0 _ hj hy0 (by rw [hy1]; decide) none 0 0 n [] w (Nat.le_refl _) (by omega) (by rw [hy2]; omega) (by omega) (by simp) (fun _ => rfl) (fun a ha => by cases ha)
    refine h.mono fun e w' ⟨he, hw⟩ => ⟨_, he, ?_, ?_⟩
    · subst hw
      have hG := grownCap_ge w (0 + n) 0 (Tryz.grow169_ren.t 25)
      have hM := grownCap_le_maxLen w (0 + n) 0 (Tryz.grow169_ren.t 25) (by unfold maxLen; omega)
      refine ⟨rfl, .inr ⟨_, _, _, rfl, Nat.le_refl _, heap_alloc_new w.drew _, Nat.zero_le _, hM, ?_, by simp⟩⟩
      simp only [Nat.zero_add] at hG hM ⊢
      generalize grownCap w n 0 (Tryz.grow169_ren.t 25) = G at *
      simp only [Array.size_append, List.size_toArray, size_zeroCells, Value.cells, List.length_nil]
      simp
      omega
    · subst hw
      exact ((Below.refl _ _).drew).alloc (Nat.le_refl _) _
set_option maxRecDepth 100000 in
set_option maxHeartbeats 3200000 in
theorem concat97_calls {Ok : World → Cm → Prop} (hK : Keeps Ok) (g c1 c2 : Nat) (a1 a2 : Option Addr) (xs ys : List Cm) (w : World) (d0 : w.cell? ⟨g, 0, none⟩ = some (.slice a1 xs.length c1)) (d1 : w.cell? ⟨g, 1, none⟩ = some (.slice a2 ys.length c2)) (hg : g < w.heap.size)
    (h1 : SliceOf 8 Cm.enc Ok w a1 xs) (h2 : SliceOf 8 Cm.enc Ok w a2 ys) (hx : xs.length ≤ 4000000) (hy : ys.length ≤ 4000000) :
    Calls Tryz.prog 97 #[.slice (some ⟨g, 0, none⟩) 2 2] w (CopyPost 52 8 Cm.enc (xs ++ ys) w) := by
  have HG := Lib.hid (growNil169 (xs.length + ys.length) w (by omega))
  have H1 := Lib.hid (fun (w' : World) (hb : Below w.heap.size w w') => SliceOf.keeps hK _ _ _ _ hb h1)
  have H2 := Lib.hid (fun (w' : World) (hb : Below w.heap.size w w') => SliceOf.keeps hK _ _ _ _ hb h2)
  have HQ := Lib.hid (fun (v : Value) (w' : World) (ho : w'.ownsRow w.heap.size 52 8 v (xs.length + ys.length) (xs.flatMap Cm.enc ++ ys.flatMap Cm.enc)) (hb : Below w.heap.size w w') => (show CopyPost 52 8 Cm.enc (xs ++ ys) w (.returned v) w' from ⟨v, rfl, by simpa using ho, hb⟩))
  obtain ⟨j0, hj, hy0, hy1, hy2⟩ := info_parts Tryz.info52
  have JI := Lib.hid hj; have J0 := Lib.hid hy0; have J1 := Lib.hid hy1; have J2 := Lib.hid hy2
  have hp : ¬ ((xs.length : Int) < 0) := by omega
  have hp2 : ¬ ((xs.length : Int) + (ys.length : Int) < 0) := by omega
  generalize CopyPost 52 8 Cm.enc (xs ++ ys) w = Q at *
  clear hj hy0 hy1 hy2 h1 h2
  go_enter Tryz.func97, Tryz.ntmps97
  go_wp2_with fail
  refine wp_loop_rounds 3 ?_
  rw [rounds_succ]
  go_wp2_with fail
  rw [rounds_succ]
  go_wp2_with fail
  rw [rounds_succ]
  go_wp2_with fail
  rw [show ((xs.length : Int) + (ys.length : Int)) = ((xs.length + ys.length : Nat) : Int) by omega]
  refine HG.out.mono ?_
  rintro e w1 ⟨v, rfl, ho1, hb1⟩
  have e0 : w1.cell? ⟨g, 0, none⟩ = some (.slice a1 xs.length c1) := (hb1.cell (p := ⟨g, 0, none⟩) hg).trans d0
  have e1 : w1.cell? ⟨g, 1, none⟩ = some (.slice a2 ys.length c2) := (hb1.cell (p := ⟨g, 1, none⟩) hg).trans d1
  have HO1 := Lib.hid ho1
  have HB1 := Lib.hid hb1
  have hs1 := hb1.size
  clear ho1 hb1 d0 d1 HG
  go_wp2_with fail
  refine wp_loop_rounds 3 ?_
  rw [rounds_succ]
  go_wp2_with (at_builtin; refine wpList_append_slice (enc := Cm.enc) (Ok := Ok) _ rfl (.tmp 31) (.tmp 32) 25 rfl w.heap.size 52 j0 _ 8 72 Tryz.underlying25 JI.out J0.out J1.out J2.out rfl (by decide) (fun _ => rfl) Cm.one _ 0 [] rfl HO1.out a1 c1 xs rfl (H1.out _ HB1.out) ?h63 ?hb ?hbase ?_)
  case h63 => unfold maxLen; omega
  case hb => omega
  case hbase => exact hs1
  intro v2 w2 ho2 hg2 _
  have hb2 : Below w.heap.size w w2 := HB1.out.grown hg2 hs1 (fun j hj => (HO1.out.lt j hj).1)
  have f1 : w2.cell? ⟨g, 1, none⟩ = some (.slice a2 ys.length c2) := hg2.cell e1 (fun e => absurd (HO1.out.lt g e.symm).1 (by omega))
  have HO2 := Lib.hid ho2
  have HB2 := Lib.hid hb2
  have hs2 := hb2.size
  clear ho2 hb2 hg2 e0 e1
  go_wp2_with fail
  rw [rounds_succ]
  go_wp2_with (at_builtin; refine wpList_append_slice (enc := Cm.enc) (Ok := Ok) _ rfl (.tmp 31) (.tmp 32) 25 rfl w.heap.size 52 j0 _ 8 72 Tryz.underlying25 JI.out J0.out J1.out J2.out rfl (by decide) (fun _ => rfl) Cm.one _ _ _ rfl HO2.out a2 c2 ys rfl (H2.out _ HB2.out) ?h63 ?hb ?hbase ?_)
  case h63 => unfold maxLen; omega
  case hb => omega
  case hbase => exact hs2
  intro v3 w3 ho3 hg3 _
  have hb3 : Below w.heap.size w w3 := HB2.out.grown hg3 hs2 (fun j hj => (HO2.out.lt j hj).1)
  have HO3 := Lib.hid ho3
  have HB3 := Lib.hid hb3
  clear ho3 hb3 hg3 f1
  go_wp2_with fail
  rw [rounds_succ]
  go_wp2_with fail
  exact HQ.out v3 _ (by simpa using HO3.out) HB3.out
end Go.Proofs.YtnlnmbcaongehaaGreatDoor
