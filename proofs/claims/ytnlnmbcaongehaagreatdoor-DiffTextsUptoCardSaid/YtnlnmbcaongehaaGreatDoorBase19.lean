/- The contract of diff.Fields: the names of the fields that differ, over diff.fields. The contract of diff.Text: the report of changes, over diff.Fields. The contract of diff.fields where the section is 3. (printed by gen_fields.py) The report of the example's changes. -/
import Derived.Deep.MidRow
import Derived.Deep.WholeRow
import Derived.Lib.SmallJoins
import Derived.Deep.RegionHeld3
import Derived.Test.YtnlnmbcaongehaaGreatDoorBase17
import Derived.Test.YtnlnmbcaongehaaGreatDoorBase04
import Derived.Test.YtnlnmbcaongehaaGreatDoorBase02
import Derived.Test.YtnlnmbcaongehaaGreatDoorBase05
import Derived.Test.YtnlnmbcaongehaaGreatDoorBase18
set_option linter.unusedVariables false
set_option linter.unusedSimpArgs false
namespace Go.Proofs.YtnlnmbcaongehaaGreatDoor
open Go.RowKit
/-- The fields of a change, in memory of the call's own. -/
def FldsPost (fs : List Fld) (w : World) (e : Ending) (w' : World) : Prop := ∃ a cap, e = .returned (.slice a fs.length cap) ∧ SliceOf 2 Fld.enc Flat w' a fs ∧ Below w.heap.size w w'
def strV (s : ByteArray) : List Value := [.string s]
/-- Strings in a row of the call's own. -/
def StrsPost (ss : List ByteArray) (w : World) (e : Ending) (w' : World) : Prop := ∃ v, e = .returned v ∧ w'.ownsRow w.heap.size 9 1 v ss.length (ss.flatMap strV) ∧ Below w.heap.size w w'
theorem own_slice {w : World} {base e size n : Nat} {v : Value} {xs : List Value} (h : w.ownsRow base e size v n xs) : ∃ a c, v = .slice a n c := by
  rcases h.2 with ⟨rfl, h0⟩ | ⟨g', cap, cur, rfl, _⟩
  · exact ⟨none, 0, by rw [h0]⟩
  · exact ⟨_, cap, rfl⟩
def NamesRel (fs : List Fld) (w : World) (k : Nat) (v : Value) (wr : World) : Prop := wr.ownsRow w.heap.size 9 1 v (namesOf (fs.take k)).length ((namesOf (fs.take k)).flatMap strV) ∧ Below w.heap.size w wr
theorem namesOf_snoc (fs : List Fld) (k : Nat) (f : Fld) (h : fs[k]? = some f) : namesOf (fs.take (k + 1)) = namesOf (fs.take k) ++ (if f.differs = true then [f.name] else []) := by
  unfold namesOf
  rw [List.take_add_one, h]
  simp only [Option.toList_some, List.filter_append, List.map_append]
  congr 1
  by_cases hd : f.differs = true
  · simp [List.filter_cons, hd]
  · simp [List.filter_cons, hd]
theorem NamesRel.start (fs : List Fld) {w wr : World} (hb : Below w.heap.size w wr) : NamesRel fs w 0 (.slice none 0 0) wr := by
  unfold NamesRel
  rw [List.take_zero]
  exact ⟨World.ownsRow_nil _ _ _ _, hb⟩
theorem NamesRel.skip {fs : List Fld} {w wr w1 : World} {k : Nat} {f : Fld} {v : Value} (hf : fs[k]? = some f) (hd : f.differs = false) (h : NamesRel fs w k v wr) (hb : Below wr.heap.size wr w1) : NamesRel fs w (k + 1) v w1 := by
  obtain ⟨h1, h2⟩ := h
  unfold NamesRel
  rw [namesOf_snoc fs k f hf, if_neg (by rw [hd]; decide), List.append_nil]
  exact ⟨owns_below h1 hb, h2.trans (hb.mono h2.size)⟩
theorem NamesRel.push {fs : List Fld} {w wr w1 w2 : World} {k : Nat} {f : Fld} {v v' : Value} (hf : fs[k]? = some f) (hd : f.differs = true) (h : NamesRel fs w k v wr) (hb : Below wr.heap.size wr w1)
    (hown : w2.ownsRow w.heap.size 9 1 v' ((namesOf (fs.take k)).length + 1) ((namesOf (fs.take k)).flatMap strV ++ [.string f.name])) (hg : (w1.alloc (.cells #[.string f.name] 9)).grownBy w2 v.ownBlock) : NamesRel fs w (k + 1) v' w2 := by
  obtain ⟨h1, h2⟩ := h
  have hb1 := h2.trans (hb.mono h2.size)
  unfold NamesRel
  rw [namesOf_snoc fs k f hf, if_pos hd]
  refine ⟨?_, (hb1.alloc hb1.size _).grown hg (by have := hb1.size; simp; omega) (fun j hj => (h1.lt j hj).1)⟩
  rw [List.length_append, List.flatMap_append]
  simpa [strV] using hown
set_option maxRecDepth 100000 in
set_option maxHeartbeats 3200000 in
theorem fields_calls (c : Chg) (w : World) (HF : ∀ w1, Below w.heap.size w w1 → Calls Tryz.prog 62 #[.agg c.enc.toArray] w1 (FldsPost (fieldsOf c) w1)) :
    Calls Tryz.prog 19 #[.agg c.enc.toArray] w (StrsPost (fieldNames c) w) := by
  have hlen : (fieldsOf c).length ≤ 5 := fieldsOf_le c
  have hfn : fieldNames c = if (c.added || c.gone) = true then [] else namesOf (fieldsOf c) := rfl
  have HQ := Lib.hid (fun (v : Value) (w' : World) (h1 : w'.ownsRow w.heap.size 9 1 v (fieldNames c).length ((fieldNames c).flatMap strV)) (h2 : Below w.heap.size w w') => (show StrsPost (fieldNames c) w (.returned v) w' from ⟨v, rfl, h1, h2⟩))
  have HF := Lib.hid HF
  generalize StrsPost (fieldNames c) w = Q at *
  generalize fieldNames c = FN at *
  generalize fieldsOf c = fs at *
  obtain ⟨i0, hi, hz0, hz1, hz2⟩ := info_parts Tryz.info9
  have JI := Lib.hid hi; have J0 := Lib.hid hz0; have J1 := Lib.hid hz1; have J2 := Lib.hid hz2
  clear hi hz0 hz1 hz2
  have hsz : (Tryz.prog.info? 54).map (·.size) = some c.enc.length := by rw [size54, Chg.len]
  have HSZ := Lib.hid hsz
  clear hsz
  obtain ⟨sec, id, name, ad, gn, oh, nh, rg, nr, oe, ne, oc, nc⟩ := c
  simp only at hfn
  generalize hcl : Chg.enc _ = cl at *
  have hc3 : cl.toArray[3]? = some (.bool ad) := by rw [← hcl]; rfl
  have hc4 : cl.toArray[4]? = some (.bool gn) := by rw [← hcl]; rfl
  have f3 := box_cell w cl.toArray 54 3 _ hc3
  have f4 := box_cell w cl.toArray 54 4 _ hc4
  have hb0 : Below (w.heap.size + 1) (w.alloc (.cells cl.toArray 54)) (w.alloc (.cells cl.toArray 54)) := Below.refl _ _
  have hs0 : (w.alloc (.cells cl.toArray 54)).heap.size = w.heap.size + 1 := World.size_alloc _ _
  have HB := Lib.hid (fun (w1 : World) (h : Below (w.heap.size + 1) (w.alloc (.cells cl.toArray 54)) w1) => box_below h)
  have HR0 := Lib.hid (range_row (heap_alloc_last w (.cells cl.toArray 54)))
  clear hcl hc3 hc4
  generalize hW0 : w.alloc (.cells cl.toArray 54) = W0 at *
  have HW0 := Lib.hid hW0
  have HS0 := Lib.hid hs0
  have HFN := Lib.hid hfn
  clear hW0 hs0 hfn
  by_cases hag : (ad || gn) = true
  · have hn : FN = [] := by rw [HFN.out, if_pos hag]
    have HE := Lib.hid (HQ.out (.slice none 0 0) W0 (by rw [hn]; exact World.ownsRow_nil _ _ _ _) (HB.out _ hb0))
    clear HF HQ hn
    cases ad
    case' false => obtain rfl : gn = true := by simpa using hag
    all_goals
      clear hag
      go_enter Tryz.func19, Tryz.ntmps19
      go_upto_region 1 with fail
      rw [HW0.out]
      go_wp2_with fail
      exact HE.out
  · obtain ⟨rfl, rfl⟩ : ad = false ∧ gn = false := by
      cases ad <;> cases gn <;> simp_all
    have hn : FN = namesOf fs := HFN.out
    have HN := Lib.hid hn
    clear hag hn
    go_enter Tryz.func19, Tryz.ntmps19
    go_upto_region 1 with fail
    rw [HW0.out]
    go_wp2_with (refine wpList_load_mid rfl 54 (.tmp 1) rfl w.heap.size 0 rfl cl _ HR0.out Tryz.underlying54 rfl HSZ.out ?_)
    refine (HF.out _ (HB.out _ hb0)).mono ?_
    rintro e w1 ⟨A, cap, rfl, hS, hb1⟩
    have hbw : Below w.heap.size w w1 := (HB.out _ hb0).trans (hb1.mono (by rw [HS0.out]; omega))
    have HSt := Lib.hid (NamesRel.start fs (Below.refl w1.heap.size w1))
    have HB1 := Lib.hid hbw
    have hw1 := hbw.size
    clear f3 f4 hb0 hb1 hbw HF HR0 HB
    go_wp2_with fail
    go_loopw [15, 3] (fun i v wr => ∃ k : Nat, k ≤ fs.length ∧ i = .int .i64 k ∧ NamesRel fs w1 k v wr) (fun i _ _ => fs.length - (intOf i).toNat)
    case atStart => exact ⟨0, by omega, rfl, HSt.out⟩
    case round =>
      obtain ⟨k, hk, rfl, hR⟩ := hrel
      obtain ⟨va, vc, rfl⟩ := own_slice hR.1
      have HRR := Lib.hid hR
      have hbr := hR.2
      have hws := hR.2.size
      by_cases hlt : k < fs.length
      · obtain ⟨b, off, f, rfl, hbl, hfk, hc, _⟩ := (SliceOf.keeps Flat.keeps _ _ _ _ hbr hS).at_ hlt
        have d0 := hc 0 _ rfl
        have d1 := hc 1 _ rfl
        simp only [Nat.add_zero] at d0
        have hle : (namesOf (fs.take k)).length ≤ 5 := by
          have h1 := namesOf_le (fs.take k)
          have h2 := List.length_take_le k fs
          omega
        cases hdf : f.differs
        · have HSK := Lib.hid (fun (w2 : World) (h : Below wr.heap.size wr w2) => NamesRel.skip hfk hdf HRR.out h)
          obtain ⟨fname, fdif⟩ := f
          simp only at hdf d0 d1
          subst hdf
          have HBA := Lib.hid (fun (o : Obj) => (Below.refl wr.heap.size wr).alloc (Nat.le_refl _) o)
          clear hc hfk hR hbr hle hS
          go_wp2_with fail
          go_roundw
          case rel => exact ⟨k + 1, by omega, by go_num, HSK.out _ (HBA.out _)⟩
          case measure => simp [intOf]; omega
        · have HPU := Lib.hid (fun (w2 w3 : World) (v' : Value) hb hown hg => NamesRel.push (w1 := w2) (w2 := w3) (v' := v') hfk hdf HRR.out hb hown hg)
          have HOW := Lib.hid (fun (o : Obj) => hR.1.alloc o)
          have hv1 := hR.1
          generalize (namesOf (fs.take k)).flatMap strV = fl at *
          generalize hnl : (namesOf (fs.take k)).length = nl at *
          obtain ⟨fname, fdif⟩ := f
          simp only at hdf d0 d1
          subst hdf
          have HBA := Lib.hid (fun (o : Obj) => (Below.refl wr.heap.size wr).alloc (Nat.le_refl _) o)
          clear hc hfk hR hbr hS hv1 hnl
          go_wp2_with (at_builtin; refine wpList_append_at _ _ rfl (.tmp 21) (.tmp 24) 55 rfl w1.heap.size 9 i0 _ 1 16 Tryz.underlying55 JI.out J0.out J1.out J2.out rfl (by decide) _ _ _ rfl (HOW.out _) _ rfl (World.size_alloc _ _).symm rfl ?h1 ?h63 ?hb ?hbase ?_)
          case h1 => first | rfl | simp [Value.oneCell']
          case h63 => unfold maxLen; omega
          case hb => omega
          case hbase => first | omega | (simp; omega)
          intro v' w3 hown' hgrow _
          have HR3 := Lib.hid (HPU.out _ w3 v' (HBA.out _) hown' hgrow)
          clear hown' hgrow HPU HOW
          go_wp2_with fail
          go_roundw
          case rel => exact ⟨k + 1, by omega, by go_num, HR3.out⟩
          case measure => simp [intOf]; omega
      · obtain rfl : k = fs.length := by omega
        obtain ⟨h1, h2⟩ := hR
        simp only [List.take_length] at h1 ⊢
        have HE1 := Lib.hid (HQ.out _ wr (by rw [HN.out]; exact ⟨h1.1, h1.2.imp (fun h => h) (fun ⟨g, cap, cur, q1, q2, q3⟩ => ⟨g, cap, cur, q1, by omega, q3⟩)⟩) (HB1.out.trans (h2.mono hw1)))
        clear h1 h2 hS HQ
        go_wp2_with fail
        exact HE1.out
end Go.Proofs.YtnlnmbcaongehaaGreatDoor
namespace Go.Proofs.YtnlnmbcaongehaaGreatDoor
open Go.RowKit
theorem builder_below {B b : Nat} {bs : List Value} {w w' : World} (h : Lib.IsBuilder 123 5 B b bs w) (hb : Below w.heap.size w w') : Lib.IsBuilder 123 5 B b bs w' := by
  have key : ∀ p, Lib.BuilderAt 123 5 B b p bs w → Lib.BuilderAt 123 5 B b p bs w' := by
    rintro p ⟨hB, v, hbk, hown, hne⟩
    exact ⟨hB, v, (hb.block b (Array.getElem?_eq_some_iff.1 hbk).1).trans hbk, owns_below hown hb, hne⟩
  rcases h with h | h
  · exact .inl (key _ h)
  · exact .inr (key _ h)
theorem pow10_global : Tryz.prog.globalNamed "internal/strconv.uint64pow10" = some 2 := by kernel_rfl
def LineRel (xs : List Chg) (w : World) (k : Nat) (wr : World) : Prop := Lib.IsBuilder 123 5 w.heap.size w.heap.size (Lib.byteCells (textB (xs.take k))) wr ∧ Below w.heap.size w wr
/-- Words in a row of the call's own. -/
def WordsAt (W1 : World) (ss : List ByteArray) (v : Value) (wx : World) : Prop := wx.ownsRow W1.heap.size 9 1 v ss.length (ss.flatMap strV) ∧ Below W1.heap.size W1 wx
theorem textB_snoc (xs : List Chg) (k : Nat) (x : Chg) (h : xs[k]? = some x) : textB (xs.take (k + 1)) = textB (xs.take k) ++ lineB x := by
  unfold textB
  rw [List.take_add_one, h, List.flatMap_append]
  simp
theorem textB_le (xs : List Chg) (k : Nat) (x : Chg) (h : xs[k]? = some x) : (textB (xs.take k)).length + (lineB x).length ≤ (textB xs).length := by
  have h1 := textB_snoc xs k x h
  have h2 : textB xs = textB (xs.take (k + 1)) ++ textB (xs.drop (k + 1)) := by
    unfold textB
    rw [← List.flatMap_append, List.take_append_drop]
  have h3 := congrArg List.length h2
  rw [List.length_append, h1, List.length_append] at h3
  omega
theorem lineB_len (x : Chg) : (lineB x).length = (Lib.join ((lineWords x).map (·.data.toList)) [32]).length + 1 := by
  unfold lineB
  rw [List.length_append]
  rfl
theorem words_lit {W1 W : World} (ss : List ByteArray) (cs : Array Value) (q n : Nat) (hq : q = W.heap.size) (hn : n = ss.length) (hs : cs.toList = ss.flatMap strV) (hl : ss.length ≤ 5) (hb : Below W1.heap.size W1 W) : WordsAt W1 ss (.slice (some ⟨q, 0, none⟩) n n) (W.alloc (.cells cs 9)) := by
  subst hq hn
  have hc : cs.size = ss.length * 1 := by
    have := congrArg List.length hs
    rw [flat_len strV 1 (fun _ => rfl)] at this
    simpa using this
  have := World.ownsRow_lit (base := W1.heap.size) (e := 9) (size := 1) W cs ss.length hb.size (by unfold maxLen; omega) hc
  rw [hs] at this
  exact ⟨this, hb.alloc hb.size _⟩
theorem words_push {W1 wx w2 : World} {ss : List ByteArray} {v v' : Value} {s : ByteArray} (h : WordsAt W1 ss v wx) (hown : w2.ownsRow W1.heap.size 9 1 v' (ss.length + 1) (ss.flatMap strV ++ [.string s])) (hg : (wx.alloc (.cells #[.string s] 9)).grownBy w2 v.ownBlock) : WordsAt W1 (ss ++ [s]) v' w2 := by
  refine ⟨?_, (h.2.alloc h.2.size _).grown hg (by have := h.2.size; simp; omega) (fun j hj => (h.1.lt j hj).1)⟩
  rw [List.length_append, List.flatMap_append]
  simpa [strV] using hown
theorem words_app {W1 wx w1 w2 : World} {ss ns : List ByteArray} {v v' : Value} (h : WordsAt W1 ss v wx) (hb : Below wx.heap.size wx w1) (hown : w2.ownsRow W1.heap.size 9 1 v' (ss.length + ns.length) (ss.flatMap strV ++ ns.flatMap strV)) (hg : w1.grownBy w2 v.ownBlock) : WordsAt W1 (ss ++ ns) v' w2 := by
  have h2 := h.2.trans (hb.mono h.2.size)
  refine ⟨?_, h2.grown hg h2.size (fun j hj => (h.1.lt j hj).1)⟩
  rw [List.length_append, List.flatMap_append]
  exact hown
theorem words_cells {W1 wx : World} {ss : List ByteArray} {q c : Nat} (h : WordsAt W1 ss (.slice (some ⟨q, 0, none⟩) ss.length c) wx) : (∀ (j : Nat) x, ss[j]? = some x → wx.cell? ⟨q, 0 + j, none⟩ = some (.string x)) ∧ q < wx.heap.size ∧ ss.length ≤ c := by
  refine ⟨fun j x hx => ?_, (h.1.lt q rfl).2, ?_⟩
  · have hj : j < ss.length := (List.getElem?_eq_some_iff.1 hx).1
    rw [Nat.zero_add, h.1.cellAt j (by omega)]
    have := flat_at strV 1 (fun _ => rfl) ss j x 0 _ hx rfl
    simpa using this
  · rcases h.1.2 with ⟨h0, _⟩ | ⟨g, cap, cur, h0, _, _, hnc, _⟩
    · simp at h0
    · simp only [Value.slice.injEq] at h0
      obtain ⟨_, _, rfl⟩ := h0
      exact hnc
theorem words_form {W1 wx : World} {ss : List ByteArray} {v : Value} (h : WordsAt W1 ss v wx) (hn : 0 < ss.length) : ∃ q c, v = .slice (some ⟨q, 0, none⟩) ss.length c := ownForm h.1 hn
theorem strs_slice {w w' : World} {ss : List ByteArray} {v : Value} (h : w'.ownsRow w.heap.size 9 1 v ss.length (ss.flatMap strV)) : ∃ a cap, v = .slice a ss.length cap ∧ SliceOf 1 strV Flat w' a ss := sliceOf_owns (k := 1) (enc := strV) (Ok := Flat) (fun _ => rfl) h (fun _ _ => trivial)
theorem LineRel.step {xs : List Chg} {w wr w4 w5 : World} {k : Nat} {x : Chg} {s : ByteArray} (hx : xs[k]? = some x) (h : LineRel xs w k wr) (hs : s.data.toList = lineB x) (hb4 : Below wr.heap.size wr w4)
    (h5 : Lib.BuilderAt 123 5 w.heap.size w.heap.size (.pointer (some ⟨w.heap.size, 0, none⟩)) (Lib.byteCells (textB (xs.take k)) ++ Lib.strCells s) w5) (hb5 : Below w.heap.size w4 w5) : LineRel xs w (k + 1) w5 := by
  obtain ⟨h1, h2⟩ := h
  refine ⟨?_, (h2.trans (hb4.mono h2.size)).trans hb5⟩
  rw [textB_snoc xs k x hx, ← hs, ← bytesOf_append]
  exact .inr h5
theorem nl_data (s : ByteArray) : (s ++ (⟨#[10]⟩ : ByteArray)).data.toList = s.data.toList ++ [10] := by
  rw [ByteArray.data_append, Array.toList_append]
theorem join_len : ∀ (ls : List ByteArray), (ls.map (fun s : ByteArray => s.data.toList)).length ≤ (Lib.join (ls.map (·.data.toList)) [32]).length + 1
  | [] => by simp
  | [x] => by simp
  | x :: y :: l => by
    have ih := join_len (y :: l)
    unfold Lib.join at ih ⊢
    simp only [List.map_cons, List.length_cons, List.length_map] at ih ⊢
    rw [List.intercalate_cons_cons, List.length_append, List.length_append]
    simp only [List.length_cons, List.length_nil]
    omega
theorem words_len (ls : List ByteArray) : ls.length ≤ (ls.map (fun s : ByteArray => s.data.toList)).length := by simp
theorem strV_one : ∀ (x : ByteArray) (v : Value), v ∈ strV x → v.oneCell' = true := by
  intro x v hv
  simp only [strV, List.mem_singleton] at hv
  rw [hv]
  rfl
theorem placeWords_len (c : Chg) : 0 < (placeWords c).length ∧ (placeWords c).length ≤ 2 := by
  unfold placeWords
  split
  · decide
  · split
    · exact ⟨by simp, by simp⟩
    · split
      · exact ⟨by simp, by simp⟩
      · split
        · exact ⟨by simp, by simp⟩
        · exact ⟨by simp, by simp⟩
set_option maxRecDepth 100000 in
set_option maxHeartbeats 3200000 in
theorem text_calls (a : Option Addr) (cap : Nat) (xs : List Chg) (w : World) (hx : ChgAt w a xs) (hl : xs.length ≤ 40000000) (hid : ∀ x ∈ xs, i64 x.id) (htx : (textB xs).length ≤ 140737488355328)
    (hT : Lib.TabIs Tryz.prog w "internal/strconv.uint64pow10" .u64 Lib.pow10Tab)
    (HF : ∀ (x : Chg) (w1 : World), x ∈ xs → x.added = false → x.gone = false → Below w.heap.size w w1 → x.lies w1 → Calls Tryz.prog 19 #[.agg x.enc.toArray] w1 (StrsPost (fieldNames x) w1)) :
    Calls Tryz.prog 22 #[.slice a xs.length cap] w fun e w' => e = .returned (.string ⟨(textB xs).toArray⟩) ∧ Below w.heap.size w w' := by
  generalize hQ : (fun (e : Ending) (w' : World) => e = .returned (.string ⟨(textB xs).toArray⟩) ∧ Below w.heap.size w w') = Q
  have HQ := Lib.hid (fun w' (hb : Below w.heap.size w w') => show Q (.returned (.string ⟨(textB xs).toArray⟩)) w' from hQ ▸ ⟨rfl, hb⟩)
  clear hQ
  obtain ⟨i0, hi, hz0, hz1, hz2⟩ := info_parts Tryz.info9
  have JI := Lib.hid hi; have J0 := Lib.hid hz0; have J1 := Lib.hid hz1; have J2 := Lib.hid hz2
  clear hi hz0 hz1 hz2
  have HST := Lib.hid (show LineRel xs w 0 (w.alloc (.cells #[.pointer none, .slice none 0 0] 123)) from ⟨builder_new w, (Below.refl _ _).alloc (Nat.le_refl _) _⟩)
  have HTB := Lib.hid (fun (w' : World) (hb : Below w.heap.size w w') => Go.Joins.tab_stays pow10_global hT hb (Nat.le_refl _))
  have HX := Lib.hid hx
  have HF := Lib.hid HF
  have HID := Lib.hid hid
  have HTX := Lib.hid htx
  clear hT hx hid htx
  go_enter Tryz.func22, Tryz.ntmps22
  go_wp2_with fail
  go_loopw [9] (fun i wr => ∃ k : Nat, k ≤ xs.length ∧ i = .int .i64 k ∧ LineRel xs w k wr) (fun i _ => xs.length - (intOf i).toNat)
  case atStart => exact ⟨0, by omega, rfl, HST.out⟩
  case round =>
    obtain ⟨k, hk, rfl, hR⟩ := hrel
    clear HST
    have HR := Lib.hid hR
    have hwr := hR.1
    have hbr := hR.2
    have hszr := hbr.size
    by_cases hlt : k < xs.length
    · obtain ⟨b, off, x, rfl, hbl, hxk, hc, hxl⟩ := (SliceOf.keeps Chg.keeps _ _ _ _ hbr HX.out).at_ hlt
      have hmem : x ∈ xs := List.mem_of_getElem? hxk
      have hxid := HID.out x hmem
      have hlen := textB_le xs k x hxk
      rw [lineB_len] at hlen
      have HLEN := Lib.hid (Nat.le_trans hlen HTX.out)
      have HSTEP := Lib.hid (fun (w4 w5 : World) (s : ByteArray) hs hb4 h5 hb5 => LineRel.step (w4 := w4) (w5 := w5) (s := s) hxk HR.out hs hb4 h5 hb5)
      have hsz : (Tryz.prog.info? 54).map (·.size) = some x.enc.length := by rw [size54, Chg.len]
      have HSZ := Lib.hid hsz
      have HRG := Lib.hid (show wr.rangeAt b (off + k * 59) x.enc from fun j v e => hc j v e)
      have HFX := Lib.hid (fun (w1 : World) (h1 : x.added = false) (h2 : x.gone = false) (hb : Below wr.heap.size wr w1) => HF.out x w1 hmem h1 h2 (hbr.trans (hb.mono hszr)) (Chg.keeps _ _ _ hb hxl))
      have HDC := Lib.hid (fun (w1 : World) (hb : Below wr.heap.size wr w1) => (show Calls Tryz.prog 66 #[.int .i64 x.id] w1 (fun e w' => e = .returned (.string (decB x.id)) ∧ Below w1.heap.size w1 w') from decimal_calls x.id hxid.1 hxid.2 w1 (HTB.out w1 (hbr.trans (hb.mono hszr)))))
      have HWS := Lib.hid (fun (s : ByteArray) (w4 : World) (hb : Below wr.heap.size wr w4) (hl4 : (Lib.byteCells (textB (xs.take k))).length + s.size ≤ 140737488355328) => writeString_calls w.heap.size w.heap.size (Lib.byteCells (textB (xs.take k))) s w4 (builder_below hwr hb) hl4 (Nat.le_trans hszr hb.size))
      have hpw := placeWords_len x
      have hpl : placeWords x = if x.sec = 1 then [wHEAD] else if x.sec = 2 then [wREGION, x.name] else if x.sec = 3 then [wEVENT, decB x.id] else if x.sec = 4 then [wCOMMENT, decB x.id] else [wASK] := rfl
      have HLW := Lib.hid (show lineWords x = placeWords x ++ (if x.added = true then [wADDED] else if x.gone = true then [wGONE] else fieldNames x) from rfl)
      have hfl : (fieldNames x).length ≤ 5 := by
        unfold fieldNames
        split
        · decide
        · exact Nat.le_trans (namesOf_le _) (fieldsOf_le x)
      have HLB := Lib.hid (show lineB x = Lib.join ((lineWords x).map (·.data.toList)) [32] ++ [10] from rfl)
      generalize lineB x = LB at *
      generalize lineWords x = LW at *
      generalize placeWords x = PW at *
      generalize fieldNames x = FN at *
      generalize hdone : (Lib.byteCells (textB (xs.take k))).length = dl at *
      have HDN := Lib.hid (show (textB (xs.take k)).length = dl from by rw [← hdone, Lib.byteCells_length])
      clear hdone hwr hxk hc hxl hsz hR hbr hlen hxid hmem HF
      obtain ⟨sec, id, name, ad, gn, oh, nh, rg, nr, oe, ne, oc, nc⟩ := x
      simp only at hpl HDC HFX HLW
      generalize hcl : Chg.enc _ = xe at *
      have h0 : xe.toArray[0]? = some (.int .u8 sec) := by rw [← hcl]; rfl
      have h1 : xe.toArray[1]? = some (.int .i64 id) := by rw [← hcl]; rfl
      have h2 : xe.toArray[2]? = some (.string name) := by rw [← hcl]; rfl
      have h3 : xe.toArray[3]? = some (.bool ad) := by rw [← hcl]; rfl
      have h4 : xe.toArray[4]? = some (.bool gn) := by rw [← hcl]; rfl
      have H1C := Lib.hid (show xe.toArray.all (·.oneCell') = true from by rw [← hcl]; exact one_all (Chg.one _))
      have HL := Lib.hid (show xe.toArray.size = 59 from by rw [← hcl]; rfl)
      have HI := Lib.hid (show (Tryz.prog.info? 54).map (·.size) = some xe.toArray.size from by simpa using HSZ.out)
      have f0 := box_cell wr xe.toArray 54 0 _ h0
      have f1 := box_cell wr xe.toArray 54 1 _ h1
      have f2 := box_cell wr xe.toArray 54 2 _ h2
      have f3 := box_cell wr xe.toArray 54 3 _ h3
      have f4 := box_cell wr xe.toArray 54 4 _ h4
      have HRB := Lib.hid (heap_alloc_last wr (.cells xe.toArray 54))
      clear hcl h0 h1 h2 h3 h4
      go_upto_region 5 with (first | (refine wpList_load_mid rfl 54 (.tmp 11) rfl b (off + k * 59) rfl xe _ HRG.out Tryz.underlying54 rfl HSZ.out ?_) | (refine wpList_store_row rfl 54 (.tmp 5) (.tmp 12) rfl wr.heap.size xe.toArray rfl rfl 54 _ (heap_alloc_last wr _) HI.out HL.out.symm H1C.out ?_; rw [World.setRow_alloc_new]))
      have hb1 : Below wr.heap.size wr (wr.alloc (.cells xe.toArray 54)) := (Below.refl _ _).alloc (Nat.le_refl _) _
      have hs1 : (wr.alloc (.cells xe.toArray 54)).heap.size = wr.heap.size + 1 := World.size_alloc _ _
      generalize wr.alloc (.cells xe.toArray 54) = W1 at *
      have HPL := Lib.hid hpl
      have HPW := Lib.hid hpw
      generalize hDI : decB id = DI at *
      clear hpl hDI hpw
      have hba : ∀ o, Below (wr.heap.size + 1) W1 (W1.alloc o) := fun o => (Below.refl _ _).alloc (by omega) o
      have hbb : ∀ o, Below W1.heap.size W1 (W1.alloc o) := fun o => (Below.refl _ _).alloc (Nat.le_refl _) o
      have hbw : ∀ o, Below wr.heap.size wr (W1.alloc o) := fun o => hb1.alloc (by omega) o
      go_upto_block 2 with fail
      go_cut [6] (fun v wx => ∃ q c, v = .slice (some ⟨q, 0, none⟩) PW.length c ∧ WordsAt W1 PW (.slice (some ⟨q, 0, none⟩) PW.length c) wx)
      case first =>
        by_cases s1 : sec = 1
        · subst s1
          have hp : PW = [wHEAD] := by rw [HPL.out]; simp
          have HP := Lib.hid hp
          clear hp HPL HPW
          go_wp2_with fail
          go_meet
          rw [HP.out]
          exact ⟨_, _, rfl, words_lit [wHEAD] _ _ _ (by rw [World.size_alloc, hs1]) rfl rfl (by simp) (hbb _)⟩
        · have e1 : (sec == 1) = false := by simpa using s1
          by_cases s2 : sec = 2
          · subst s2
            have HP := Lib.hid (show PW = [wREGION, name] from by rw [HPL.out]; simp)
            clear HPL HPW s1
            go_wp2_with fail
            go_meet
            rw [HP.out]
            exact ⟨_, _, rfl, words_lit [wREGION, name] _ _ _ (by rw [World.size_alloc, hs1]) rfl rfl (by simp) (hbb _)⟩
          · have e2 : (sec == 2) = false := by simpa using s2
            by_cases s3 : sec = 3
            · subst s3
              have HP := Lib.hid (show PW = [wEVENT, DI] from by rw [HPL.out]; simp)
              clear HPL HPW s1 s2
              go_wp2_with fail
              refine (HDC.out _ (hbw _)).mono ?_
              rintro e w3 ⟨rfl, hb3⟩
              have hb3' := (hbb _).trans (hb3.mono (by simp))
              go_wp2_with fail
              go_meet
              rw [HP.out]
              exact ⟨_, _, rfl, words_lit [wEVENT, DI] _ _ _ rfl rfl rfl (by simp) hb3'⟩
            · have e3 : (sec == 3) = false := by simpa using s3
              by_cases s4 : sec = 4
              · subst s4
                have HP := Lib.hid (show PW = [wCOMMENT, DI] from by rw [HPL.out]; simp)
                clear HPL HPW s1 s2 s3
                go_wp2_with fail
                refine (HDC.out _ (hbw _)).mono ?_
                rintro e w3 ⟨rfl, hb3⟩
                have hb3' := (hbb _).trans (hb3.mono (by simp))
                go_wp2_with fail
                go_meet
                rw [HP.out]
                exact ⟨_, _, rfl, words_lit [wCOMMENT, DI] _ _ _ rfl rfl rfl (by simp) hb3'⟩
              · have e4 : (sec == 4) = false := by simpa using s4
                have HP := Lib.hid (show PW = [wASK] from by rw [HPL.out, if_neg s1, if_neg s2, if_neg s3, if_neg s4])
                clear HPL HPW
                go_wp2_with fail
                go_meet
                rw [HP.out]
                exact ⟨_, _, rfl, words_lit [wASK] _ _ _ hs1.symm rfl rfl (by simp) (Below.refl _ _)⟩
      case rest =>
        obtain ⟨q, c, rfl, hw⟩ := hcut
        have HW := Lib.hid hw
        have hcw : Below (wr.heap.size + 1) W1 wc := hs1 ▸ hw.2
        have hcr : Below wr.heap.size wr wc := hb1.trans (hw.2.mono (by omega))
        have hsc := hcw.size
        have hpl2 := HPW.out.2
        have HRX := Lib.hid (range_row ((hcw.block wr.heap.size (by omega)).trans HRB.out))
        have hws1 : W1.heap.size ≤ wc.heap.size := hw.2.size
        have HWO := Lib.hid hw.1
        have HPWX := Lib.hid HPW.out.1
        have HS1 := Lib.hid hs1
        have hb1' := hb1
        clear hba hbb hbw HPL HPW HDC hw hs1 f0 f1 f2 hb1
        go_upto_block 3 with fail
        go_cut [6] (fun v wx => ∃ q c, v = .slice (some ⟨q, 0, none⟩) LW.length c ∧ WordsAt W1 LW (.slice (some ⟨q, 0, none⟩) LW.length c) wx)
        case first =>
          have hp1 := HPWX.out
          have HPUSH := Lib.hid (fun (s : ByteArray) (v' : Value) (w2 : World) (hown : w2.ownsRow W1.heap.size 9 1 v' (PW.length + 1) (PW.flatMap strV ++ [.string s])) (hg : (wc.alloc (.cells #[.string s] 9)).grownBy w2 (Value.slice (some ⟨q, 0, none⟩) PW.length c).ownBlock) => words_push HW.out hown hg)
          have HAPP := Lib.hid (fun (w1 w2 : World) (v' : Value) (hb : Below wc.heap.size wc w1) (hown : w2.ownsRow W1.heap.size 9 1 v' (PW.length + FN.length) (PW.flatMap strV ++ FN.flatMap strV)) (hg : w1.grownBy w2 (Value.slice (some ⟨q, 0, none⟩) PW.length c).ownBlock) => words_app HW.out hb hown hg)
          generalize PW.flatMap strV = pf at *
          cases ad
          · cases gn
            · have HLE := Lib.hid (show LW = PW ++ FN from HLW.out)
              have hpos : 0 < LW.length := by rw [HLE.out, List.length_append]; omega
              have HC := Lib.hid (HFX.out wc rfl rfl hcr)
              clear HFX HLW HPUSH
              go_wp2_with (refine wpList_load_mid rfl 54 (.tmp 5) rfl wr.heap.size 0 rfl xe _ HRX.out Tryz.underlying54 rfl HSZ.out ?_)
              refine HC.out.mono ?_
              rintro e w3 ⟨v3, rfl, ho3, hb3⟩
              obtain ⟨A3, c3, rfl, hS3⟩ := strs_slice ho3
              have HO3 := Lib.hid (owns_below HWO.out hb3)
              have HSS := Lib.hid hS3
              have HB3 := Lib.hid hb3
              have hs3 := hb3.size
              clear ho3 hS3 hb3 HC f3 f4
              go_wp2_with (at_builtin; refine wpList_append_slice (enc := strV) (Ok := Flat) w3 rfl (.tmp 36) (.tmp 38) 55 rfl W1.heap.size 9 i0 _ 1 16 Tryz.underlying55 JI.out J0.out J1.out J2.out rfl (by decide) (fun _ => rfl) strV_one _ PW.length _ rfl HO3.out A3 c3 FN rfl HSS.out ?h63 ?hb ?hbase ?_)
              case h63 => unfold maxLen; omega
              case hb => omega
              case hbase => omega
              intro v' w2 hown' hgrow _
              have hlw : WordsAt W1 LW v' w2 := by rw [HLE.out]; exact HAPP.out w3 w2 v' HB3.out hown' hgrow
              obtain ⟨q', c', rfl⟩ := words_form hlw hpos
              have HLW2 := Lib.hid hlw
              clear hlw hown' hgrow HAPP HO3 HWO
              go_wp2_with fail
              go_meet
              exact ⟨q', c', rfl, HLW2.out⟩
            · have HLE := Lib.hid (show LW = PW ++ [wGONE] from HLW.out)
              have hpos : 0 < LW.length := by rw [HLE.out, List.length_append]; omega
              clear HFX HLW HAPP
              go_wp2_with (at_builtin; refine wpList_append_at _ _ rfl (.tmp 49) (.tmp 50) 55 rfl W1.heap.size 9 i0 _ 1 16 Tryz.underlying55 JI.out J0.out J1.out J2.out rfl (by decide) _ PW.length _ rfl HWO.out _ rfl rfl rfl ?h1G ?h63G ?hbG ?hbaseG ?_)
              case h1G => first | rfl | simp [Value.oneCell']
              case h63G => unfold maxLen; omega
              case hbG => omega
              case hbaseG => first | omega | (simp; omega)
              intro v' w2 hown' hgrow _
              have hlw : WordsAt W1 LW v' w2 := by rw [HLE.out]; exact HPUSH.out _ v' w2 hown' hgrow
              obtain ⟨q', c', rfl⟩ := words_form hlw hpos
              have HLW2 := Lib.hid hlw
              clear hlw hown' hgrow HPUSH HWO
              go_wp2_with fail
              go_meet
              exact ⟨q', c', rfl, HLW2.out⟩
          · have HLE := Lib.hid (show LW = PW ++ [wADDED] from HLW.out)
            have hpos : 0 < LW.length := by rw [HLE.out, List.length_append]; omega
            clear HFX HLW HAPP
            go_wp2_with (at_builtin; refine wpList_append_at _ _ rfl (.tmp 43) (.tmp 44) 55 rfl W1.heap.size 9 i0 _ 1 16 Tryz.underlying55 JI.out J0.out J1.out J2.out rfl (by decide) _ PW.length _ rfl HWO.out _ rfl rfl rfl ?h1A ?h63A ?hbA ?hbaseA ?_)
            case h1A => first | rfl | simp [Value.oneCell']
            case h63A => unfold maxLen; omega
            case hbA => omega
            case hbaseA => first | omega | (simp; omega)
            intro v' w2 hown' hgrow _
            have hlw : WordsAt W1 LW v' w2 := by rw [HLE.out]; exact HPUSH.out _ v' w2 hown' hgrow
            obtain ⟨q', c', rfl⟩ := words_form hlw hpos
            have HLW2 := Lib.hid hlw
            clear hlw hown' hgrow HPUSH HWO
            go_wp2_with fail
            go_meet
            exact ⟨q', c', rfl, HLW2.out⟩
        case rest =>
          obtain ⟨q', c', rfl, hw⟩ := hcut
          obtain ⟨hcells, hq', hcap'⟩ := words_cells hw
          have hlen' := HLEN.out
          have hb4' := hb1'.trans (hw.2.mono (by rw [HS1.out]; omega))
          have HJ := Lib.hid (Tryz.strings_Join q' 0 c' LW ⟨#[32]⟩ wc hcells hq' (by
            have h1 := Nat.le_trans (words_len LW) (join_len LW)
            omega) hcap' (by have h1 : (Lib.join (LW.map (·.data.toList)) [32]).length + 1 ≤ 140737488355328 := by omega
                             exact Nat.le_trans (Nat.le_succ _) h1))
          have hS : ((⟨(Lib.join (LW.map (·.data.toList)) (⟨#[32]⟩ : ByteArray).data.toList).toArray⟩ : ByteArray)).data.toList = Lib.join (LW.map (·.data.toList)) [32] := rfl
          generalize (⟨(Lib.join (LW.map (·.data.toList)) (⟨#[32]⟩ : ByteArray).data.toList).toArray⟩ : ByteArray) = S at *
          have hSn : (S ++ (⟨#[10]⟩ : ByteArray)).data.toList = LB := by rw [nl_data, hS, HLB.out]
          have hSz : dl + (S ++ (⟨#[10]⟩ : ByteArray)).size ≤ 140737488355328 := by
            have h1 : (S ++ (⟨#[10]⟩ : ByteArray)).size = (S ++ (⟨#[10]⟩ : ByteArray)).data.toList.length := rfl
            rw [h1, nl_data, hS, List.length_append, ← HDN.out]
            exact hlen'
          have hnS : ¬ 9223372036854775807 < S.size + 1 := by
            have h1 : (S ++ (⟨#[10]⟩ : ByteArray)).size = S.size + 1 := ByteArray.size_append
            omega
          have HWC := Lib.hid (fun (w4 : World) (h : Below wc.heap.size wc w4) => HWS.out (S ++ (⟨#[10]⟩ : ByteArray)) w4 (hb4'.trans (h.mono hb4'.size)) hSz)
          have HFI := Lib.hid (fun (w4 w5 : World) (h : Below wc.heap.size wc w4) h5 hb5 => HSTEP.out w4 w5 (S ++ (⟨#[10]⟩ : ByteArray)) hSn (hb4'.trans (h.mono hb4'.size)) h5 hb5)
          clear hcells hq' hcap' hlen' hS hSn hSz HWS HSTEP HLEN HDN f3 f4 hcw hcr
          go_wp2_with fail
          refine HJ.out.mono ?_
          rintro e w4 ⟨rfl, hb4⟩
          have HB4 := Lib.hid hb4
          clear hb4 HJ
          go_wp2_with fail
          refine (HWC.out w4 HB4.out).mono ?_
          rintro e w5 ⟨rfl, h5, hb5⟩
          have HR5 := Lib.hid (HFI.out w4 w5 HB4.out h5 hb5)
          clear h5 hb5 HWC HFI
          go_wp2_with fail
          go_roundw
          case rel => exact ⟨k + 1, by omega, by go_num, HR5.out⟩
          case measure => simp [intOf]; omega
    · obtain rfl : k = xs.length := by omega
      obtain ⟨hB, hbw⟩ := hR
      rw [List.take_length] at hB
      have HW := Lib.hid (Tryz.Builder_String_any w.heap.size w.heap.size (textB xs) wr hB hszr)
      have HE := Lib.hid (fun w1 (h : Below w.heap.size wr w1) => HQ.out w1 (hbw.trans h))
      clear hB hbw hwr hbr HF
      go_wp2_with (go_at_call 69; refine HW.out.mono ?_; rintro e w1 ⟨rfl, h1⟩)
      exact HE.out _ h1
end Go.Proofs.YtnlnmbcaongehaaGreatDoor
namespace Go.Proofs.YtnlnmbcaongehaaGreatDoor
open Go.RowKit
theorem run_spanNe (a b c d : Int) (w : World) : (binOp .neq 46 (.agg #[.int .i64 a, .int .i64 b]) (.agg #[.int .i64 c, .int .i64 d])).run Tryz.prog w = .ok (.bool (!(a == c && b == d))) w := by
  simp [go_sem]
  repeat' split
  all_goals simp_all
theorem fld_lit3 {w w' : World} (fs : List Fld) (cs : Array Value) (hs : cs.toList = fs.flatMap Fld.enc) (hb : Below w.heap.size w w') : SliceOf 2 Fld.enc Flat (w'.alloc (.cells cs 117)) (some ⟨w'.heap.size, 0, none⟩) fs ∧ Below w.heap.size w (w'.alloc (.cells cs 117)) := by
  refine ⟨.inr ⟨w'.heap.size, 0, rfl, by simp, fun i x hx => ⟨fun j v hv => ?_, trivial⟩⟩, hb.alloc hb.size _⟩
  rw [show 0 + i * 2 + j = i * 2 + j by omega, cell_of_row _ _ _ cs 117 (0, 0) (heap_alloc_last w' _)]
  have := flat_at Fld.enc 2 (fun _ => rfl) fs i x j v hx hv
  rw [← hs] at this
  simpa using this
set_option maxRecDepth 100000 in
set_option maxHeartbeats 6400000 in
theorem fldsEv_calls (c : Chg) (w : World) (hsec : c.sec = 3) (hl : c.lies w) (hfo : ∀ r ∈ c.oe.rows, r.runs.length ≤ 4000000) (hfn : ∀ r ∈ c.ne.rows, r.runs.length ≤ 4000000) (hle : c.oe.rows.length ≤ 4000000) : Calls Tryz.prog 62 #[.agg c.enc.toArray] w (FldsPost (fieldsOf c) w) := by
  have HSR := Lib.hid (fun (w1 : World) (h : Below w.heap.size w w1) => sameRows_calls c.oe.at_ c.ne.at_ c.oe.cap c.ne.cap c.oe.rows c.ne.rows w1 (Ev.keeps _ _ _ h hl.1) (Ev.keeps _ _ _ h hl.2) hfo hfn hle)
  clear hl hfo hfn hle
  have HQ := Lib.hid (fun (a : Option Addr) (cap n : Nat) (w' : World) (hn : n = (fieldsOf c).length) (h : SliceOf 2 Fld.enc Flat w' a (fieldsOf c) ∧ Below w.heap.size w w') => (show FldsPost (fieldsOf c) w (.returned (.slice a n cap)) w' from ⟨a, cap, by rw [hn], h.1, h.2⟩))
  generalize FldsPost (fieldsOf c) w = Q at *
  obtain ⟨sec, id, name, ad, gn, oh, nh, rg, nr, oe, ne, oc, nc⟩ := c
  simp only at hsec
  subst hsec
  generalize hcl : Chg.enc _ = cl
  have hc0 : cl.toArray[0]? = some (.int .u8 3) := by rw [← hcl]; rfl
  have hc29 : cl.toArray[29]? = some (.int .i64 oe.id) := by rw [← hcl]; rfl
  have hc30 : cl.toArray[30]? = some (.int .i64 oe.inn) := by rw [← hcl]; rfl
  have hc31 : cl.toArray[31]? = some (.int .i64 oe.out) := by rw [← hcl]; rfl
  have hc32 : cl.toArray[32]? = some (.string oe.region) := by rw [← hcl]; rfl
  have hc33 : cl.toArray[33]? = some (.int .u8 oe.kind) := by rw [← hcl]; rfl
  have hc34 : cl.toArray[34]? = some (.string oe.speaker) := by rw [← hcl]; rfl
  have hc35 : cl.toArray[35]? = some (.slice oe.at_ oe.rows.length oe.cap) := by rw [← hcl]; rfl
  have hc36 : cl.toArray[36]? = some (.int .i64 ne.id) := by rw [← hcl]; rfl
  have hc37 : cl.toArray[37]? = some (.int .i64 ne.inn) := by rw [← hcl]; rfl
  have hc38 : cl.toArray[38]? = some (.int .i64 ne.out) := by rw [← hcl]; rfl
  have hc39 : cl.toArray[39]? = some (.string ne.region) := by rw [← hcl]; rfl
  have hc40 : cl.toArray[40]? = some (.int .u8 ne.kind) := by rw [← hcl]; rfl
  have hc41 : cl.toArray[41]? = some (.string ne.speaker) := by rw [← hcl]; rfl
  have hc42 : cl.toArray[42]? = some (.slice ne.at_ ne.rows.length ne.cap) := by rw [← hcl]; rfl
  have f0 := box_cell w cl.toArray 54 0 _ hc0
  have f29 := box_cell w cl.toArray 54 29 _ hc29
  have f30 := box_cell w cl.toArray 54 30 _ hc30
  have f31 := box_cell w cl.toArray 54 31 _ hc31
  have f32 := box_cell w cl.toArray 54 32 _ hc32
  have f33 := box_cell w cl.toArray 54 33 _ hc33
  have f34 := box_cell w cl.toArray 54 34 _ hc34
  have f35 := box_cell w cl.toArray 54 35 _ hc35
  have f36 := box_cell w cl.toArray 54 36 _ hc36
  have f37 := box_cell w cl.toArray 54 37 _ hc37
  have f38 := box_cell w cl.toArray 54 38 _ hc38
  have f39 := box_cell w cl.toArray 54 39 _ hc39
  have f40 := box_cell w cl.toArray 54 40 _ hc40
  have f41 := box_cell w cl.toArray 54 41 _ hc41
  have f42 := box_cell w cl.toArray 54 42 _ hc42
  clear hcl hc0 hc29 hc30 hc31 hc32 hc33 hc34 hc35 hc36 hc37 hc38 hc39 hc40 hc41 hc42
  have hb0 : Below (w.heap.size + 1) (w.alloc (.cells cl.toArray 54)) (w.alloc (.cells cl.toArray 54)) := Below.refl _ _
  have hs0 : (w.alloc (.cells cl.toArray 54)).heap.size = w.heap.size + 1 := World.size_alloc _ _
  have HB := Lib.hid (fun (w1 : World) (h : Below (w.heap.size + 1) (w.alloc (.cells cl.toArray 54)) w1) => box_below h)
  generalize hW0 : w.alloc (.cells cl.toArray 54) = W0 at *
  have HW0 := Lib.hid hW0
  have HSZ := Lib.hid hs0
  have hbd : Below (w.heap.size + 1) W0 W0.drew := hb0.drew
  have HAD := Lib.hid (fun (o : Obj) => ((hb0.alloc (by rw [HSZ.out]; exact Nat.le_refl _) o).drew : Below (w.heap.size + 1) W0 (W0.alloc o).drew))
  have HT0 := Lib.hid (fun (w2 w3 : World) (h : Below (w.heap.size + 1) W0 w2) (h3 : Below w2.heap.size w2 w3) => (h.trans (h3.mono (by have := h.size; rw [HSZ.out] at this; exact this)) : Below (w.heap.size + 1) W0 w3))
  have HLT := Lib.hid (fun (w2 : World) (h : Below (w.heap.size + 1) W0 w2) => (show w.heap.size + 1 ≤ w2.heap.size by have := h.size; rw [HSZ.out] at this; exact this))
  clear hW0 hs0
  go_enter Tryz.func62, Tryz.ntmps62
  go_upto_region 1 with fail
  rw [HW0.out]
  go_upto_region 9 with fail
  go_cut [7, 8] (fun v1 v2 wx => ∃ g1 g2 : Nat, v1 = .pointer (some ⟨g1, 0, none⟩) ∧ v2 = .pointer (some ⟨g2, 0, none⟩) ∧ wx.heap[g1]? = some (.cells #[Value.int .i64 oe.id, .int .i64 oe.inn, .int .i64 oe.out, .string oe.region, .int .u8 oe.kind, .string oe.speaker, .slice oe.at_ oe.rows.length oe.cap] 50 (0, 0)) ∧ wx.heap[g2]? = some (.cells #[Value.int .i64 ne.id, .int .i64 ne.inn, .int .i64 ne.out, .string ne.region, .int .u8 ne.kind, .string ne.speaker, .slice ne.at_ ne.rows.length ne.cap] 50 (0, 0)) ∧ Below (w.heap.size + 1) W0 wx)
  case first =>
    go_region_held3 (fun w' => Below (w.heap.size + 1) W0 w') (repeat (first | with_reducible assumption | with_reducible exact hbd | with_reducible exact HAD.out _ | with_reducible refine Below.drew ?_ | with_reducible refine Below.setCell ?_ (by dsimp only; first | omega | (have := HSZ.out; simp; omega)) _ | with_reducible refine Below.alloc ?_ (by first | (rw [HSZ.out]; exact Nat.le_refl _) | (simp [HSZ.out])) _)) (fail)
    all_goals
      go_wp2_with fail
      go_meet
    · exact ⟨_, _, rfl, rfl, alloc_at (heap_alloc_last _ _), alloc_last' _ (by simp), ((hb0.alloc (by rw [HSZ.out]; exact Nat.le_refl _) _).alloc (by simp [HSZ.out]) _).drew⟩
    · exact ⟨_, _, rfl, rfl, alloc_last' _ (by simp), alloc_at (heap_alloc_last _ _), ((hb0.alloc (by rw [HSZ.out]; exact Nat.le_refl _) _).alloc (by simp [HSZ.out]) _).drew⟩
  case rest =>
    obtain ⟨g1, g2, rfl, rfl, hg1, hg2, hcw⟩ := hcut
    have hl1 := (Array.getElem?_eq_some_iff.1 hg1).1
    have hl2 := (Array.getElem?_eq_some_iff.1 hg2).1
    have k1 : ∀ (w' : World), Below wc.heap.size wc w' → ∀ (j : Nat), w'.cell? ⟨g1, j, none⟩ = _ := fun w' h j => cell_of_row _ _ j _ 50 (0, 0) ((h.block g1 hl1).trans hg1)
    have k2 : ∀ (w' : World), Below wc.heap.size wc w' → ∀ (j : Nat), w'.cell? ⟨g2, j, none⟩ = _ := fun w' h j => cell_of_row _ _ j _ 50 (0, 0) ((h.block g2 hl2).trans hg2)
    have HCW := Lib.hid hcw
    have hwc : Below wc.heap.size wc wc := Below.refl _ _
    clear f0 f29 f30 f31 f32 f33 f34 f35 f36 f37 f38 f39 f40 f41 f42 hb0 hbd hg1 hg2 hl1 hl2 hcw HAD
    have hwd : Below wc.heap.size wc wc.drew := hwc.drew
    have HS := Lib.hid (HSR.out wc.drew (HB.out _ (HT0.out _ _ HCW.out hwd)))
    have r1 := fun wx => run_spanNe oe.inn oe.out ne.inn ne.out wx
    generalize hRE : rowsEq oe.rows ne.rows = RE at *
    have HRE := Lib.hid hRE
    clear hRE
    go_upto_region 10 with fail
    go_region_held3 (fun w' => Below wc.heap.size wc w') (repeat (first | with_reducible assumption | with_reducible exact hwd | with_reducible refine Below.alloc ?_ (by first | exact Nat.le_refl _ | (have := hw3.size; exact this)) _)) (first
      | (go_at_call 84; (with_reducible refine HS.out.mono ?_); rintro e w3 ⟨rfl, hb3⟩; have hw3 : Below wc.heap.size wc w3 := hwd.trans (hb3.mono hwd.size); clear hb3))
    go_wp2_with fail
    have hbf := HB.out _ (HT0.out _ _ HCW.out hw3)
    exact HQ.out _ _ _ _ rfl (fld_lit3 _ _ (by simp [fieldsOf, Fld.enc, HRE.out, wSPAN, wREGION, wKIND, wSPEAKER, wROWS, Bool.not_and, bne]) hbf)
end Go.Proofs.YtnlnmbcaongehaaGreatDoor
namespace Go.Proofs.YtnlnmbcaongehaaGreatDoor
open Go.RowKit
theorem aw_text_calls (A : Option Addr) (c : Nat) (xs : List Chg) (w : World) (hT : Lib.TabIs Tryz.prog w "internal/strconv.uint64pow10" .u64 Lib.pow10Tab) (hx : ChgAt w A xs) (hxc : xs.map Chg.c = [awC1, awC2]) :
    Calls Tryz.prog 22 #[.slice A xs.length c] w fun e w' => e = .returned (.string ⟨awBytes.toArray⟩) ∧ Below w.heap.size w w' := by
  have ht := aw_text hxc
  have hm : ∀ x ∈ xs, x.c = awC1 ∨ x.c = awC2 := fun x hx => by
    have : x.c ∈ xs.map Chg.c := List.mem_map.2 ⟨x, hx, rfl⟩
    rw [hxc] at this
    simpa using this
  have hn : xs.length = 2 := by
    have := congrArg List.length hxc
    simpa using this
  have h := text_calls A c xs w hx (by omega) (fun x hx => ?_) (by rw [ht]; decide) hT (fun x w1 hx h1 h2 hb hl => ?_)
  · rw [ht] at h
    exact h
  · rcases hm x hx with h | h
    · have h0 : x.id = 0 := congrArg ChgC.id h
      rw [h0]
      exact ⟨by decide, by decide⟩
    · exact (aw_evs h).1
  · rcases hm x hx with h | h
    · have h0 : x.gone = true := congrArg ChgC.gone h
      rw [h0] at h2
      cases h2
    · have hs : x.sec = 3 := congrArg ChgC.sec h
      obtain ⟨_, hfo, hfn⟩ := aw_evs h
      exact fields_calls x w1 fun w2 hb2 => fldsEv_calls x w2 hs (Chg.keeps _ _ _ hb2 hl) (fun r hr => (hfo.2.2.2.2.2.2.2.1 r hr).2.1) (fun r hr => (hfn.2.2.2.2.2.2.2.1 r hr).2.1) hfo.2.2.2.2.2.2.2.2
end Go.Proofs.YtnlnmbcaongehaaGreatDoor
