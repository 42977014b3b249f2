/- The contract of the law's text: the document of some texts. -/
import Derived.Test.YtdgakmpopgpijaaGreatDoorUpdate2
set_option linter.unusedVariables false
namespace Go.Proofs.YtdgakmpopgpijaaGreatDoor
open Go.RowKit

/-- Strings in memory. -/
def Strs (w : World) (a : Option Addr) (ss : List ByteArray) : Prop := SliceOf 1 (fun s => [Value.string s]) Flat w a ss
theorem Strs.later {w w' : World} {a : Option Addr} {ss : List ByteArray} (h : Strs w a ss) (hb : Below w.heap.size w w') : Strs w' a ss := SliceOf.keeps Flat.keeps w w' a ss hb h

def mkRun (s : ByteArray) : Run := ⟨s, 0, false, false, ⟨#[]⟩⟩
def mkRow (s : ByteArray) (qb : Nat) : Row := ⟨some ⟨qb, 0, none⟩, 1, [mkRun s]⟩
/-- The event of a text. -/
def mkEv (i : Nat) (s : ByteArray) (rb qb : Nat) : Ev := ⟨(i : Int) + 1, i, 9, ⟨#[]⟩, 1, ⟨#[]⟩, some ⟨rb, 0, none⟩, 1, [mkRow s qb]⟩
/-- The events of the first k texts. -/
def TextOf (w : World) (ss : List ByteArray) : Nat → List Ev → Prop
  | 0, evs => evs = []
  | k + 1, evs => match ss[k]? with
    | none => TextOf w ss k evs
    | some s => if s.toList = [] then TextOf w ss k evs else ∃ evs' rb qb, evs = evs' ++ [mkEv k s rb qb] ∧ w.heap[rb]? = some (.cells #[.slice (some ⟨qb, 0, none⟩) 1 1] 88) ∧ w.heap[qb]? = some (.cells #[.string s, .int .u8 0, .bool false, .bool false, .string ⟨#[]⟩] 85) ∧ TextOf w ss k evs'

/-- Blocks that hold rows and runs stay, where all blocks but those of events and documents stay. -/
theorem TextOf.kept {w w' : World} {ss : List ByteArray} (h : ∀ (b : Nat) (cs : Array Value) (t : TypeId), w.heap[b]? = some (.cells cs t) → (t = 88 ∨ t = 85) → w'.heap[b]? = some (.cells cs t)) : ∀ k evs, TextOf w ss k evs → TextOf w' ss k evs
  | 0, _, e => e
  | k + 1, evs, e => by
    simp only [TextOf] at e ⊢
    split at e
    · exact TextOf.kept h k evs e
    · rename_i s hs
      split at e
      · rename_i h0
        rw [if_pos h0]
        exact TextOf.kept h k evs e
      · rename_i h0
        rw [if_neg h0]
        obtain ⟨evs', rb, qb, r1, r2, r3, r4⟩ := e
        exact ⟨evs', rb, qb, r1, h rb _ 88 r2 (.inl rfl), h qb _ 85 r3 (.inr rfl), TextOf.kept h k evs' r4⟩

theorem TextOf.lies {w : World} {ss : List ByteArray} : ∀ k evs, TextOf w ss k evs → ∀ x ∈ evs, x.lies w
  | 0, evs, e => by simp only [TextOf] at e; subst e; simp
  | k + 1, evs, e => by
    simp only [TextOf] at e
    split at e
    · exact TextOf.lies k evs e
    · rename_i s hs
      split at e
      · exact TextOf.lies k evs e
      · obtain ⟨evs', rb, qb, rfl, r2, r3, r4⟩ := e
        intro x hx
        rcases List.mem_append.1 hx with hx | hx
        · exact TextOf.lies k evs' r4 x hx
        · obtain rfl : x = mkEv k s rb qb := by simpa using hx
          refine .inr ⟨rb, 0, rfl, (Array.getElem?_eq_some_iff.1 r2).1, fun i r hr => ?_⟩
          obtain ⟨rfl, rfl⟩ : i = 0 ∧ mkRow s qb = r := by
            cases i with
            | zero => exact ⟨rfl, by simpa [mkEv] using hr⟩
            | succ n => simp [mkEv] at hr
          refine ⟨fun j v hv => ?_, .inr ⟨qb, 0, rfl, (Array.getElem?_eq_some_iff.1 r3).1, fun i x hx => ?_⟩⟩
          · have hj : j < 1 := (List.getElem?_eq_some_iff.1 hv).1
            obtain rfl : j = 0 := by omega
            rw [cell_of_row w rb _ _ 88 (0, 0) r2]
            simpa [mkRow, Row.enc] using hv
          · obtain ⟨rfl, rfl⟩ : i = 0 ∧ mkRun s = x := by
              cases i with
              | zero => exact ⟨rfl, by simpa [mkRow] using hx⟩
              | succ n => simp [mkRow] at hx
            refine ⟨fun j v hv => ?_, trivial⟩
            rw [show 0 + 0 * 5 + j = j by omega, cell_of_row w qb _ _ 85 (0, 0) r3]
            simpa [mkRun, Run.enc] using hv

theorem Evs.of_owns {w : World} {base : Nat} {v : Value} {xs : List Ev} (h : w.ownsRow base 60 7 v xs.length (xs.flatMap Ev.enc)) (hl : ∀ x ∈ xs, x.lies w) : ∃ a cap, v = .slice a xs.length cap ∧ EvsAt w a xs := by
  have h' := h
  rcases h.2 with ⟨rfl, h0⟩ | ⟨g, cap, cur, rfl, hb, hg, _⟩
  · exact ⟨none, 0, by rw [h0], .inl (List.eq_nil_of_length_eq_zero h0)⟩
  · refine ⟨_, cap, rfl, .inr ⟨g, 0, rfl, (Array.getElem?_eq_some_iff.1 hg).1, fun i x hx => ⟨fun j v hv => ?_, hl x (List.mem_of_getElem? hx)⟩⟩⟩
    have hi : i < xs.length := (List.getElem?_eq_some_iff.1 hx).1
    have hj : j < 7 := (List.getElem?_eq_some_iff.1 hv).1
    have hfl := flat_at Ev.enc 7 (fun _ => rfl) xs i x j v hx hv
    have hlen := flat_len Ev.enc 7 (fun _ => rfl) xs
    rw [show 0 + i * 7 + j = i * 7 + j by omega, h'.cellAt (i * 7 + j) (by omega)]
    exact hfl

theorem Tryz.info60 : (Tryz.prog.info? 60).map (fun i => (i.zero, i.size, i.bytes)) = some (some (.agg #[.int .i64 0, .int .i64 0, .int .i64 0, .string ⟨#[]⟩, .int .u8 0, .string ⟨#[]⟩, .slice none 0 0]), 7, 88) := by kernel_rfl

def docCells (n : Int) (v : Value) : Array Value := #[.string ⟨#[]⟩, .string ⟨#[]⟩, .int .u8 3, .bool false, .int .i64 n, .slice none 0 0, v, .slice none 0 0]
def zeroDoc : Array Value := #[.string ⟨#[]⟩, .string ⟨#[]⟩, .int .u8 0, .bool false, .int .i64 0, .slice none 0 0, .slice none 0 0, .slice none 0 0]

/-- text's relation: the result's block, the document's block with its events, which the call has laid. -/
def TextRel (ss : List ByteArray) (w : World) (k : Nat) (wr : World) : Prop :=
  ∃ v evs, wr.heap[w.heap.size]? = some (.cells zeroDoc 28) ∧ wr.heap[w.heap.size + 1]? = some (.cells (docCells ss.length v) 28) ∧ wr.ownsRow (w.heap.size + 2) 60 7 v evs.length (evs.flatMap Ev.enc) ∧ TextOf wr ss k evs ∧ evs.length ≤ k ∧ Below w.heap.size w wr

def textDoc (n : Nat) (ea : Option Addr) (ec : Nat) (evs : List Ev) : Doc := ⟨⟨#[]⟩, ⟨#[]⟩, 3, false, n, none, 0, [], ea, ec, evs, none, 0, []⟩
def TextPost (ss : List ByteArray) (w : World) (e : Ending) (w' : World) : Prop :=
  ∃ ea ec evs, e = .returned (.agg (textDoc ss.length ea ec evs).enc.toArray) ∧ EvsAt w' ea evs ∧ TextOf w' ss ss.length evs ∧ Below w.heap.size w w'

theorem setCell_blk {w : World} {g j : Nat} {cs : Array Value} {t : TypeId} (h : w.heap[g]? = some (.cells cs t)) (v : Value) : (w.setCell ⟨g, j, none⟩ v).heap[g]? = some (.cells (cs.setIfInBounds j v) t) := by
  simp only [World.setCell, Array.getElem?_modify, h]
  simp
theorem setCell_blk_ne {w : World} {g b j : Nat} {o : Obj} (h : w.heap[b]? = some o) (hne : b ≠ g) (v : Value) : (w.setCell ⟨g, j, none⟩ v).heap[b]? = some o := by
  rw [Below.heap_setCell _ _ _ _ hne]; exact h

theorem own_same {w w' : World} {base e size n : Nat} {v : Value} {xs : List Value} (h : w.ownsRow base e size v n xs) (hb : ∀ g, base ≤ g → g < w.heap.size → w'.heap[g]? = w.heap[g]?) : w'.ownsRow base e size v n xs := by
  refine ⟨h.1, ?_⟩
  rcases h.2 with hn | ⟨g, cap, cur, e1, hbase, hgg, rest⟩
  · exact .inl hn
  · refine .inr ⟨g, cap, cur, e1, hbase, ?_, rest⟩
    rw [hb g hbase (Array.getElem?_eq_some_iff.1 hgg).1]
    exact hgg
theorem own_tag {w : World} {base e size n : Nat} {v : Value} {xs : List Value} (h : w.ownsRow base e size v n xs) {g : Nat} (hg : v.ownBlock = some g) : ∃ cur, w.heap[g]? = some (.cells cur e) := by
  rcases h.2 with ⟨rfl, _⟩ | ⟨g', cap, cur, rfl, _, hgg, _⟩
  · simp [Value.ownBlock] at hg
  · obtain rfl : g' = g := by simpa [Value.ownBlock] using hg
    exact ⟨cur, hgg⟩

theorem own_slice {w : World} {base e size n : Nat} {v : Value} {xs : List Value} (h : w.ownsRow base e size v n xs) : ∃ a c, v = .slice a n c := by
  rcases h.2 with ⟨rfl, h0⟩ | ⟨g', cap, cur, rfl, _⟩
  · exact ⟨none, 0, by rw [h0]⟩
  · exact ⟨_, cap, rfl⟩

theorem text_step {ss : List ByteArray} {w wr w2 : World} {k : Nat} {v v' : Value} {evs : List Ev} {s : ByteArray} (hs : ss[k]? = some s) (h0 : ¬ s.toList = [])
    (q0 : wr.heap[w.heap.size]? = some (.cells zeroDoc 28)) (q1 : wr.heap[w.heap.size + 1]? = some (.cells (docCells ss.length v) 28)) (hown : wr.ownsRow (w.heap.size + 2) 60 7 v evs.length (evs.flatMap Ev.enc)) (hT : TextOf wr ss k evs) (hle : evs.length ≤ k) (hb : Below w.heap.size w wr)
    (hown' : w2.ownsRow (w.heap.size + 2) 60 7 v' (evs.length + 1) (evs.flatMap Ev.enc ++ (mkEv k s (wr.heap.size + 1) wr.heap.size).enc))
    (hg : (((wr.alloc (.cells #[.string s, .int .u8 0, .bool false, .bool false, .string ⟨#[]⟩] 85)).alloc (.cells #[.slice (some ⟨wr.heap.size, 0, none⟩) 1 1] 88)).alloc (.cells (mkEv k s (wr.heap.size + 1) wr.heap.size).enc.toArray 60)).grownBy w2 v.ownBlock) :
    TextRel ss w (k + 1) (w2.setCell ⟨w.heap.size + 1, 6, none⟩ v') := by
  have hwr : w.heap.size + 1 < wr.heap.size := (Array.getElem?_eq_some_iff.1 q1).1
  have hsz : (((wr.alloc (.cells #[.string s, .int .u8 0, .bool false, .bool false, .string ⟨#[]⟩] 85)).alloc (.cells #[.slice (some ⟨wr.heap.size, 0, none⟩) 1 1] 88)).alloc (.cells (mkEv k s (wr.heap.size + 1) wr.heap.size).enc.toArray 60)).heap.size = wr.heap.size + 3 := by simp
  have hlow : ∀ j, v.ownBlock = some j → w.heap.size + 2 ≤ j := fun j hj => (hown.lt j hj).1
  have hhigh : ∀ j, v.ownBlock = some j → j < wr.heap.size := fun j hj => by
    obtain ⟨cur, h⟩ := own_tag hown hj
    exact (Array.getElem?_eq_some_iff.1 h).1
  -- a block of the world with its three new ones, in the last world
  have key : ∀ b o, (((wr.alloc (.cells #[.string s, .int .u8 0, .bool false, .bool false, .string ⟨#[]⟩] 85)).alloc (.cells #[.slice (some ⟨wr.heap.size, 0, none⟩) 1 1] 88)).alloc (.cells (mkEv k s (wr.heap.size + 1) wr.heap.size).enc.toArray 60)).heap[b]? = some o → some b ≠ v.ownBlock → w2.heap[b]? = some o := fun b o h hne =>
    (hg.block b (Array.getElem?_eq_some_iff.1 h).1 hne).trans h
  have old : ∀ b o, wr.heap[b]? = some o → some b ≠ v.ownBlock → w2.heap[b]? = some o := fun b o h hne => key b o (alloc_blk (alloc_blk (alloc_blk h _) _) _) hne
  have n0 : some w.heap.size ≠ v.ownBlock := fun h => by have := hlow _ h.symm; omega
  have n1 : some (w.heap.size + 1) ≠ v.ownBlock := fun h => by have := hlow _ h.symm; omega
  have n2 : some wr.heap.size ≠ v.ownBlock := fun h => by have := hhigh _ h.symm; omega
  have n3 : some (wr.heap.size + 1) ≠ v.ownBlock := fun h => by have := hhigh _ h.symm; omega
  refine ⟨v', evs ++ [mkEv k s (wr.heap.size + 1) wr.heap.size], setCell_blk_ne (old _ _ q0 n0) (by omega) _, setCell_blk (old _ _ q1 n1) v', ?_, ?_, by simp; omega, ?_⟩
  · refine own_same ?_ (fun g hg1 hg2 => Below.heap_setCell _ _ _ _ (by simp; omega))
    simpa using hown'
  · simp only [TextOf, hs, if_neg h0]
    refine ⟨evs, wr.heap.size + 1, wr.heap.size, rfl, ?_, ?_, ?_⟩
    · refine setCell_blk_ne (key _ _ (alloc_blk ?_ _) n3) (by omega) _
      have := heap_alloc_last (wr.alloc (.cells #[.string s, .int .u8 0, .bool false, .bool false, .string ⟨#[]⟩] 85)) (.cells #[.slice (some ⟨wr.heap.size, 0, none⟩) 1 1] 88)
      rwa [World.size_alloc] at this
    · exact setCell_blk_ne (key _ _ (alloc_blk (alloc_blk (heap_alloc_last wr _) _) _) n2) (by omega) _
    · refine TextOf.kept (fun b cs t h ht => ?_) k evs hT
      have hne1 : b ≠ w.heap.size + 1 := by
        rintro rfl
        rw [q1] at h
        rcases ht with rfl | rfl <;> simp at h
      have hne2 : some b ≠ v.ownBlock := fun hh => by
        obtain ⟨cur, hc⟩ := own_tag hown hh.symm
        rw [h] at hc
        rcases ht with rfl | rfl <;> simp at hc
      exact setCell_blk_ne (old _ _ h hne2) hne1 _
  · refine Below.setCell ?_ (by dsimp only; omega) _
    exact (((hb.alloc hb.size _).alloc (by simp; omega) _).alloc (by simp; omega) _).grown hg (by rw [hsz]; omega) (fun j hj => by have := hlow j hj; omega)

theorem text_skip {ss : List ByteArray} {w wr : World} {k : Nat} {s : ByteArray} (hs : ss[k]? = some s) (h0 : s.toList = []) (h : TextRel ss w k wr) : TextRel ss w (k + 1) wr := by
  obtain ⟨v, evs, q0, q1, hown, hT, hle, hb⟩ := h
  refine ⟨v, evs, q0, q1, hown, ?_, by omega, hb⟩
  simp only [TextOf, hs, if_pos h0]
  exact hT

theorem below_eight {w wr : World} {b : Nat} (hb : Below w.heap.size w wr) (h : w.heap.size ≤ b) (v0 v1 v2 v3 v4 v5 v6 v7 : Value) : Below w.heap.size w ((((((((wr.setCell ⟨b, 0, none⟩ v0).setCell ⟨b, 1, none⟩ v1).setCell ⟨b, 2, none⟩ v2).setCell ⟨b, 3, none⟩ v3).setCell ⟨b, 4, none⟩ v4).setCell ⟨b, 5, none⟩ v5).setCell ⟨b, 6, none⟩ v6).setCell ⟨b, 7, none⟩ v7) :=
  (((((((hb.setCell h _).setCell h _).setCell h _).setCell h _).setCell h _).setCell h _).setCell h _).setCell h _
theorem heap_eight (wr : World) (b : Nat) (v0 v1 v2 v3 v4 v5 v6 v7 : Value) (k : Nat) (hk : k ≠ b) : ((((((((wr.setCell ⟨b, 0, none⟩ v0).setCell ⟨b, 1, none⟩ v1).setCell ⟨b, 2, none⟩ v2).setCell ⟨b, 3, none⟩ v3).setCell ⟨b, 4, none⟩ v4).setCell ⟨b, 5, none⟩ v5).setCell ⟨b, 6, none⟩ v6).setCell ⟨b, 7, none⟩ v7).heap[k]? = wr.heap[k]? := by
  rw [Below.heap_setCell _ _ _ _ hk, Below.heap_setCell _ _ _ _ hk, Below.heap_setCell _ _ _ _ hk, Below.heap_setCell _ _ _ _ hk, Below.heap_setCell _ _ _ _ hk, Below.heap_setCell _ _ _ _ hk, Below.heap_setCell _ _ _ _ hk, Below.heap_setCell _ _ _ _ hk]

theorem text_end {ss : List ByteArray} {w wr w' : World} {v : Value} {evs : List Ev} (hown : wr.ownsRow (w.heap.size + 2) 60 7 v evs.length (evs.flatMap Ev.enc)) (hT : TextOf wr ss ss.length evs) (q0 : wr.heap[w.heap.size]? = some (.cells zeroDoc 28))
    (hh : ∀ b, b ≠ w.heap.size → w'.heap[b]? = wr.heap[b]?) (hb : Below w.heap.size w w') : TextPost ss w (.returned (.agg (docCells ss.length v))) w' := by
  have ho : w'.ownsRow (w.heap.size + 2) 60 7 v evs.length (evs.flatMap Ev.enc) := own_same hown (fun g h1 _ => hh g (by omega))
  have hT' : TextOf w' ss ss.length evs := TextOf.kept (fun b cs t h ht => by
    refine (hh b ?_).trans h
    rintro rfl
    rw [q0] at h
    rcases ht with rfl | rfl <;> simp at h) _ _ hT
  obtain ⟨ea, ec, rfl, hE⟩ := Evs.of_owns ho (TextOf.lies _ _ hT')
  exact ⟨ea, ec, evs, rfl, hE, hT', hb⟩

set_option maxRecDepth 100000 in
set_option maxHeartbeats 800000 in
theorem text_calls (a : Option Addr) (cap : Nat) (ss : List ByteArray) (w : World) (hS : Strs w a ss) (hl : ss.length ≤ 4000000) :
    Calls Tryz.prog 26 #[.slice a ss.length cap] w (TextPost ss w) := by
  obtain ⟨j0, hj, hy0, hy1, hy2⟩ := info_parts Tryz.info60
  have JI := Lib.hid hj; have J0 := Lib.hid hy0; have J1 := Lib.hid hy1; have J2 := Lib.hid hy2
  clear hj hy0 hy1 hy2
  have H0 : Hid (TextRel ss w 0 ((w.alloc (.cells zeroDoc 28)).alloc (.cells (docCells ss.length (.slice none 0 0)) 28))) := Lib.hid ⟨.slice none 0 0, [], alloc_blk (heap_alloc_last _ _) _, by have := heap_alloc_last (w.alloc (.cells zeroDoc 28)) (.cells (docCells ss.length (.slice none 0 0)) 28); rwa [World.size_alloc] at this, World.ownsRow_nil _ _ _ _, rfl, Nat.le_refl _, ((Below.refl _ _).alloc (Nat.le_refl _) _).alloc (by simp) _⟩
  go_enter Tryz.func26, Tryz.ntmps26
  go_wp2_with fail
  go_loopw [11] (fun i wr => ∃ k : Nat, k ≤ ss.length ∧ i = .int .i64 k ∧ TextRel ss w k wr) (fun i _ => ss.length - (intOf i).toNat)
  case atStart => exact ⟨0, by omega, rfl, H0.out⟩
  case round =>
    obtain ⟨k, hk, rfl, hrl⟩ := hrel
    have HRL := Lib.hid hrl
    obtain ⟨v, evs, q0, q1, hown, hT, hle, hb⟩ := hrl
    obtain ⟨va, vc, rfl⟩ := own_slice hown
    clear H0
    have hc6 := cell_of_row wr _ 6 _ 28 (0, 0) q1
    have hz6 := frozen_of_row wr _ 6 _ 28 q1
    have hw1 : w.heap.size + 1 < wr.heap.size := (Array.getElem?_eq_some_iff.1 q1).1
    by_cases hlt : k < ss.length
    · obtain ⟨b, off, s, rfl, hbl, hsk, hc, _⟩ := (hS.later hb).at_ hlt
      have d0 := hc 0 _ rfl
      simp only [Nat.add_zero, Nat.mul_one] at d0
      by_cases h0 : s.toList = []
      · have HN := Lib.hid (text_skip hsk h0 HRL.out)
        have h0' : s.toList.isEmpty = true := by simpa using h0
        clear hc hsk hown hT q0 q1 hc6 HRL
        go_wp2_with fail
        go_roundw
        case rel => exact ⟨k + 1, by omega, by go_num, HN.out⟩
        case measure => simp [intOf]; omega
      · have h0' : s.toList.isEmpty = false := by simpa using h0
        have HN := Lib.hid (fun v' w2 => text_step (v' := v') (w2 := w2) hsk h0 q0 q1 hown hT hle hb)
        have HO := Lib.hid (fun o o' => (hown.alloc o).alloc o')
        have HK := Lib.hid (fun (w2 : World) {o o' o''} (hg : (((wr.alloc o).alloc o').alloc o'').grownBy w2 (Value.slice va evs.length vc).ownBlock) => (hg.block (w.heap.size + 1) (by simp; omega) (fun h => by have := (hown.lt _ h.symm).1; omega)).trans (alloc_blk (alloc_blk (alloc_blk q1 o) o') o''))
        simp only [docCells] at hc6
        simp at hc6
        clear hc hsk hT q0 q1 HRL
        go_wp2_with (at_builtin; refine wpList_append_new _ _ rfl (.tmp 19) (.tmp 30) 25 rfl (w.heap.size + 2) 60 j0 _ 7 88 Tryz.underlying25 JI.out J0.out J1.out J2.out rfl (by decide) _ _ _ rfl (HO.out _ _) _ rfl (by simp) rfl ?h1 ?h63 ?hb ?hbase ?_)
        case h1 => exact ⟨rfl, rfl, rfl, rfl, rfl, rfl, rfl⟩
        case h63 => unfold maxLen; omega
        case hb => omega
        case hbase => simp; omega
        intro v' w2 hown' hgrow
        obtain ⟨va', vc', rfl⟩ := own_slice hown'
        have R := Lib.hid (HN.out _ w2 hown' hgrow)
        have q2 := HK.out _ hgrow
        have c6 := cell_of_row w2 _ 6 _ 28 (0, 0) q2
        have z6 := frozen_of_row w2 _ 6 _ 28 q2
        have hw2 : w.heap.size + 1 < w2.heap.size := (Array.getElem?_eq_some_iff.1 q2).1
        simp only [docCells] at c6
        simp at c6
        clear hown' hgrow HN HO q2 hc6 hz6 HK hown
        go_wp2_with fail
        go_roundw
        case rel => exact ⟨k + 1, by omega, by go_num, R.out⟩
        case measure => simp [intOf]; omega
    · obtain rfl : k = ss.length := by omega
      have HE := Lib.hid (fun w' => text_end (w' := w') hown hT q0)
      have HBW := Lib.hid hb
      have e0 := cell_of_row wr _ 0 _ 28 (0, 0) q1
      have e1 := cell_of_row wr _ 1 _ 28 (0, 0) q1
      have e2 := cell_of_row wr _ 2 _ 28 (0, 0) q1
      have e3 := cell_of_row wr _ 3 _ 28 (0, 0) q1
      have e4 := cell_of_row wr _ 4 _ 28 (0, 0) q1
      have e5 := cell_of_row wr _ 5 _ 28 (0, 0) q1
      have e7 := cell_of_row wr _ 7 _ 28 (0, 0) q1
      have u0 := cell_of_row wr _ 0 _ 28 (0, 0) q0
      have u1 := cell_of_row wr _ 1 _ 28 (0, 0) q0
      have u2 := cell_of_row wr _ 2 _ 28 (0, 0) q0
      have u3 := cell_of_row wr _ 3 _ 28 (0, 0) q0
      have u4 := cell_of_row wr _ 4 _ 28 (0, 0) q0
      have u5 := cell_of_row wr _ 5 _ 28 (0, 0) q0
      have u6 := cell_of_row wr _ 6 _ 28 (0, 0) q0
      have u7 := cell_of_row wr _ 7 _ 28 (0, 0) q0
      have z0 := frozen_of_row wr _ 0 _ 28 q0
      have z1 := frozen_of_row wr _ 1 _ 28 q0
      have z2 := frozen_of_row wr _ 2 _ 28 q0
      have z3 := frozen_of_row wr _ 3 _ 28 q0
      have z4 := frozen_of_row wr _ 4 _ 28 q0
      have z5 := frozen_of_row wr _ 5 _ 28 q0
      have z6 := frozen_of_row wr _ 6 _ 28 q0
      have z7 := frozen_of_row wr _ 7 _ 28 q0
      have hw0 : w.heap.size < wr.heap.size := by omega
      simp only [docCells] at e0 e1 e2 e3 e4 e5 e7 hc6
      simp only [zeroDoc] at u0 u1 u2 u3 u4 u5 u6 u7
      simp at e0 e1 e2 e3 e4 e5 e7 hc6 u0 u1 u2 u3 u4 u5 u6 u7
      clear hown hT q0 q1 HRL hb
      go_wp2_with fail
      exact bodyPost_ret (v := .agg #[.string ⟨#[]⟩, .string ⟨#[]⟩, .int .u8 3, .bool false, .int .i64 ss.length, .slice none 0 0, .slice va evs.length vc, .slice none 0 0]) (by simp [results, Tryz.results26, go_sem, *]) rfl
        (HE.out _ (heap_eight wr w.heap.size _ _ _ _ _ _ _ _) (below_eight HBW.out (Nat.le_refl _) _ _ _ _ _ _ _ _))

end Go.Proofs.YtdgakmpopgpijaaGreatDoor
