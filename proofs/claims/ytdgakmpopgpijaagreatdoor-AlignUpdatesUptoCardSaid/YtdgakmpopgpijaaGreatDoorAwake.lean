/- The contract of the law's awake: the chapter's example comes out as written. -/
import Derived.Test.YtdgakmpopgpijaaGreatDoorPlain
set_option linter.unusedVariables false
namespace Go.Proofs.YtdgakmpopgpijaaGreatDoor
open Go.RowKit

theorem sorted_unique : ∀ {ys zs : List Lk}, ys.Perm zs → ys.Pairwise (fun x y => x.tpl ≤ y.tpl) → zs.Pairwise (fun x y => x.tpl < y.tpl) → ys = zs
  | [], zs, hp, _, _ => (List.nil_perm.1 hp).symm
  | y :: ys, [], hp, _, _ => absurd hp.length_eq (by simp)
  | y :: ys, z :: zs, hp, h1, h2 => by
    rw [List.pairwise_cons] at h1 h2
    have hy : y ∈ z :: zs := hp.subset (by simp)
    have hz : z ∈ y :: ys := hp.symm.subset (by simp)
    have e : y = z := by
      rcases List.mem_cons.1 hy with h | h
      · exact h
      · rcases List.mem_cons.1 hz with h' | h'
        · exact h'.symm
        · have a := h2.1 y h
          have b := h1.1 z h'
          omega
    subst e
    rw [sorted_unique (List.perm_cons _ |>.1 hp) h1.2 h2.2]

theorem Strs.new (w : World) (ss : List ByteArray) : Strs (w.alloc (.cells (ss.map Value.string).toArray 9)) (some ⟨w.heap.size, 0, none⟩) ss := by
  refine .inr ⟨w.heap.size, 0, rfl, by simp, fun i s hs => ⟨fun j v hv => ?_, trivial⟩⟩
  have hj : j < 1 := (List.getElem?_eq_some_iff.1 hv).1
  obtain rfl : j = 0 := by omega
  rw [show 0 + i * 1 + 0 = i by omega, cell_of_row _ _ i _ 9 (0, 0) (heap_alloc_last w _)]
  simp [hs] at hv ⊢
  exact hv
theorem Lks.new (w : World) (xs : List Lk) : LksAt (w.alloc (.cells (xs.flatMap Lk.enc).toArray 49)) (some ⟨w.heap.size, 0, none⟩) xs := by
  refine .inr ⟨w.heap.size, 0, rfl, by simp, fun i x hx => ⟨fun j v hv => ?_, trivial⟩⟩
  rw [show 0 + i * 3 + j = i * 3 + j by omega, cell_of_row _ _ (i * 3 + j) _ 49 (0, 0) (heap_alloc_last w _)]
  have := flat_at Lk.enc 3 (fun _ => rfl) xs i x j v hx hv
  simpa using this

abbrev tA : ByteArray := ⟨#[65]⟩
abbrev tB : ByteArray := ⟨#[66]⟩
abbrev tC : ByteArray := ⟨#[67]⟩
abbrev tX : ByteArray := ⟨#[88]⟩
abbrev tD : ByteArray := ⟨#[68]⟩
abbrev t0 : ByteArray := ⟨#[]⟩
theorem nA : ¬ tA.toList = [] := by decide +kernel
theorem nB : ¬ tB.toList = [] := by decide +kernel
theorem nC : ¬ tC.toList = [] := by decide +kernel
theorem nX : ¬ tX.toList = [] := by decide +kernel
theorem nD : ¬ tD.toList = [] := by decide +kernel
theorem n0 : t0.toList = [] := by decide +kernel

theorem text1 {w : World} {evs : List Ev} (h : TextOf w [tA, tB, tC] 3 evs) : ∃ r0 q0 r1 q1 r2 q2, evs = [mkEv 0 tA r0 q0, mkEv 1 tB r1 q1, mkEv 2 tC r2 q2] := by
  simp [TextOf] at h
  obtain ⟨e2, ⟨r2, q2, rfl, _, _, e1, ⟨r1, q1, rfl, _, _, e0, r0, q0, rfl, _, _, rfl⟩⟩⟩ := h
  exact ⟨r0, q0, r1, q1, r2, q2, rfl⟩
theorem text2 {w : World} {evs : List Ev} (h : TextOf w [tX, t0, t0, tD] 4 evs) : ∃ r0 q0 r1 q1, evs = [mkEv 0 tX r0 q0, mkEv 3 tD r1 q1] := by
  simp [TextOf] at h
  obtain ⟨e2, ⟨r2, q2, rfl, _, _, e1, r1, q1, rfl, _, _, rfl⟩⟩ := h
  exact ⟨r1, q1, r2, q2, rfl⟩

def exL : List Lk := [⟨1, 11, 1⟩, ⟨2, 12, 1⟩, ⟨3, 0, 3⟩]
def exM : List Lk := [⟨1, 11, 2⟩, ⟨2, 12, 4⟩, ⟨4, 0, 3⟩]

theorem mkEv_fits (i : Nat) (s : ByteArray) (rb qb : Nat) (hi : i ≤ 1000) (hs : s.size ≤ 1000) : (mkEv i s rb qb).fits := by
  have h0 : (⟨#[]⟩ : ByteArray).size = 0 := rfl
  refine ⟨?_, ?_, ?_, ?_, ?_, ?_, ?_, ?_, ?_⟩
  · simp only [mkEv, i64]; omega
  · simp only [mkEv, i64]; omega
  · simp only [mkEv, i64]; omega
  · simp only [mkEv, h0]; omega
  · simp only [mkEv]; omega
  · simp only [mkEv]; omega
  · simp only [mkEv, h0]; omega
  · intro r hr
    obtain rfl : r = mkRow s qb := by simpa [mkEv] using hr
    refine ⟨fun x hx => ?_, by simp [mkRow], by simp [mkRow, sumText, mkRun]; omega⟩
    obtain rfl : x = mkRun s := by simpa [mkRow] using hx
    exact ⟨by simp only [mkRun]; omega, by simp only [mkRun, h0]; omega, by simp only [mkRun]; omega, by simp only [mkRun]; omega⟩
  · simp [mkEv]

theorem textDoc_fits (n : Nat) (ea : Option Addr) (ec : Nat) (evs : List Ev) (hn : n ≤ 1000) (he : ∀ x ∈ evs, x.fits) (hl : evs.length ≤ 1000) : (textDoc n ea ec evs).fits := by
  have h0 : (⟨#[]⟩ : ByteArray).size = 0 := rfl
  refine ⟨by simp only [textDoc, h0]; omega, by simp only [textDoc, h0]; omega, by simp only [textDoc]; omega, by simp only [textDoc]; omega, ?_, by simp [textDoc], by simp [textDoc], he, by simp only [textDoc]; omega, by simp [textDoc], by simp [textDoc]⟩
  simp only [textDoc, i64]; omega

theorem ex_form : formB exL = true := by decide +kernel
theorem ex_doc1 (ea : Option Addr) (ec r0 q0 r1 q1 r2 q2 : Nat) : docErr (textDoc 3 ea ec [mkEv 0 tA r0 q0, mkEv 1 tB r1 q1, mkEv 2 tC r2 q2]) = 0 := by kernel_rfl
theorem ex_doc2 (ea : Option Addr) (ec r0 q0 r1 q1 : Nat) : docErr (textDoc 4 ea ec [mkEv 0 tX r0 q0, mkEv 3 tD r1 q1]) = 0 := by kernel_rfl
theorem ex_belong (r0 q0 r1 q1 r2 q2 : Nat) : belongB exL [mkEv 0 tA r0 q0, mkEv 1 tB r1 q1, mkEv 2 tC r2 q2] = true := by
  have h1 : idsOf [mkEv 0 tA r0 q0, mkEv 1 tB r1 q1, mkEv 2 tC r2 q2] = [1, 2, 3] := rfl
  have h2 : sortI [1, 2, 3] = [1, 2, 3] := List.mergeSort_of_pairwise (by decide)
  have h3 : ownIds exL = [1, 2, 3] := by decide +kernel
  unfold belongB
  rw [h1, h2, h3]
  rfl
theorem ex_all (r0 q0 r1 q1 r2 q2 s0 p0 s1 p1 : Nat) : updAll exL [mkEv 0 tA r0 q0, mkEv 1 tB r1 q1, mkEv 2 tC r2 q2] [mkEv 0 tX s0 p0, mkEv 3 tD s1 p1] = exM := by kernel_rfl

def ExPost (w : World) (e : Ending) (w' : World) : Prop := ∃ a cap, e = .returned (.tuple #[.slice a 3 cap, .int .i64 0]) ∧ LksAt w' a exM ∧ Below w.heap.size w w'

theorem ex_update (a : Option Addr) (cap : Nat) (ea ea' : Option Addr) (ec ec' : Nat) (evs evs' : List Ev) (w v v' : World) (hE : Env w) (hx : LksAt w a exL) (h1 : EvsAt w ea evs) (h2 : EvsAt w ea' evs') (t1 : TextOf v [tA, tB, tC] 3 evs) (t2 : TextOf v' [tX, t0, t0, tD] 4 evs') :
    Calls Tryz.prog 8 #[.slice a 3 cap, .agg (textDoc 3 ea ec evs).enc.toArray, .agg (textDoc 4 ea' ec' evs').enc.toArray] w (ExPost w) := by
  obtain ⟨r0, q0, r1, q1, r2, q2, rfl⟩ := text1 t1
  obtain ⟨s0, p0, s1, p1, rfl⟩ := text2 t2
  have hsz : tA.size = 1 ∧ tB.size = 1 ∧ tC.size = 1 ∧ tX.size = 1 ∧ tD.size = 1 := ⟨rfl, rfl, rfl, rfl, rfl⟩
  obtain ⟨z1, z2, z3, z4, z5⟩ := hsz
  have hf1 := textDoc_fits 3 ea ec [mkEv 0 tA r0 q0, mkEv 1 tB r1 q1, mkEv 2 tC r2 q2] (by omega) (by
    intro x hx
    simp only [List.mem_cons, List.not_mem_nil, or_false] at hx
    rcases hx with rfl | rfl | rfl
    · exact mkEv_fits _ _ _ _ (by omega) (by omega)
    · exact mkEv_fits _ _ _ _ (by omega) (by omega)
    · exact mkEv_fits _ _ _ _ (by omega) (by omega)) (by simp)
  have hf2 := textDoc_fits 4 ea' ec' [mkEv 0 tX s0 p0, mkEv 3 tD s1 p1] (by omega) (by
    intro x hx
    simp only [List.mem_cons, List.not_mem_nil, or_false] at hx
    rcases hx with rfl | rfl
    · exact mkEv_fits _ _ _ _ (by omega) (by omega)
    · exact mkEv_fits _ _ _ _ (by omega) (by omega)) (by simp)
  have hU := update_calls a cap exL (textDoc 3 ea ec [mkEv 0 tA r0 q0, mkEv 1 tB r1 q1, mkEv 2 tC r2 q2]) (textDoc 4 ea' ec' [mkEv 0 tX s0 p0, mkEv 3 tD s1 p1]) w hE hx (by
    intro x hx
    simp only [exL, List.mem_cons, List.not_mem_nil, or_false] at hx
    rcases hx with rfl | rfl | rfl <;> (refine ⟨?_, ?_, ?_, ?_⟩ <;> simp [i64])) (by simp [exL]) ⟨.inl rfl, h1, .inl rfl⟩ ⟨.inl rfl, h2, .inl rfl⟩ hf1 hf2
  have h0 : updErr exL (textDoc 3 ea ec [mkEv 0 tA r0 q0, mkEv 1 tB r1 q1, mkEv 2 tC r2 q2]) (textDoc 4 ea' ec' [mkEv 0 tX s0 p0, mkEv 3 tD s1 p1]) = 0 := by
    unfold updErr
    rw [if_neg (by rw [ex_form]; decide), if_neg (by rw [ex_doc1]; decide), if_neg (by rw [ex_doc2]; decide), if_neg (by rw [show (textDoc 3 ea ec [mkEv 0 tA r0 q0, mkEv 1 tB r1 q1, mkEv 2 tC r2 q2]).evs = [mkEv 0 tA r0 q0, mkEv 1 tB r1 q1, mkEv 2 tC r2 q2] from rfl, ex_belong]; decide)]
  refine hU.mono fun e w' ⟨⟨v, he, _, hg⟩, hb⟩ => ?_
  obtain ⟨ys, a', cap', rfl, hy, hp, hs⟩ := hg h0
  have hq : (updAll exL (textDoc 3 ea ec [mkEv 0 tA r0 q0, mkEv 1 tB r1 q1, mkEv 2 tC r2 q2]).evs (textDoc 4 ea' ec' [mkEv 0 tX s0 p0, mkEv 3 tD s1 p1]).evs) = exM := ex_all r0 q0 r1 q1 r2 q2 s0 p0 s1 p1
  rw [hq] at hp
  obtain rfl : ys = exM := sorted_unique hp hs (by decide)
  rw [h0] at he
  exact ⟨a', cap', he, hy, hb⟩

set_option maxRecDepth 100000 in
set_option maxHeartbeats 3200000 in
theorem awake_calls (w : World) (hE : Env w) : Calls Tryz.prog 7 #[] w fun e w' => e = .returned (.bool true) ∧ Below w.heap.size w w' := by
  have HL : Hid (LksAt (w.alloc (.cells #[Value.int .i64 1, .int .i64 11, .int .u8 1, Value.int .i64 2, .int .i64 12, .int .u8 1, Value.int .i64 3, .int .i64 0, .int .u8 3] 49)) (some ⟨w.heap.size, 0, none⟩) exL) := Lib.hid (Lks.new w exL)
  have HM : Hid (∀ w1 : World, LksAt (w1.alloc (.cells #[Value.int .i64 1, .int .i64 11, .int .u8 2, Value.int .i64 2, .int .i64 12, .int .u8 4, Value.int .i64 4, .int .i64 0, .int .u8 3] 49)) (some ⟨w1.heap.size, 0, none⟩) exM) := Lib.hid (fun w1 => Lks.new w1 exM)
  have H1 : Hid (Calls Tryz.prog 26 #[.slice (some ⟨w.heap.size + 1, 0, none⟩) 3 3] ((w.alloc (.cells #[Value.int .i64 1, .int .i64 11, .int .u8 1, Value.int .i64 2, .int .i64 12, .int .u8 1, Value.int .i64 3, .int .i64 0, .int .u8 3] 49)).alloc (.cells #[Value.string ⟨#[65]⟩, .string ⟨#[66]⟩, .string ⟨#[67]⟩] 9)) (TextPost [tA, tB, tC] ((w.alloc (.cells #[Value.int .i64 1, .int .i64 11, .int .u8 1, Value.int .i64 2, .int .i64 12, .int .u8 1, Value.int .i64 3, .int .i64 0, .int .u8 3] 49)).alloc (.cells #[Value.string ⟨#[65]⟩, .string ⟨#[66]⟩, .string ⟨#[67]⟩] 9)))) := by
    have h := text_calls (some ⟨(w.alloc (.cells #[Value.int .i64 1, .int .i64 11, .int .u8 1, Value.int .i64 2, .int .i64 12, .int .u8 1, Value.int .i64 3, .int .i64 0, .int .u8 3] 49)).heap.size, 0, none⟩) 3 [tA, tB, tC] ((w.alloc (.cells #[Value.int .i64 1, .int .i64 11, .int .u8 1, Value.int .i64 2, .int .i64 12, .int .u8 1, Value.int .i64 3, .int .i64 0, .int .u8 3] 49)).alloc (.cells #[Value.string ⟨#[65]⟩, .string ⟨#[66]⟩, .string ⟨#[67]⟩] 9)) (Strs.new _ [tA, tB, tC]) (by simp)
    rw [World.size_alloc] at h
    exact Lib.hid h
  have H2 : Hid (∀ w3 : World, Calls Tryz.prog 26 #[.slice (some ⟨w3.heap.size, 0, none⟩) 4 4] (w3.alloc (.cells #[Value.string ⟨#[88]⟩, .string ⟨#[]⟩, .string ⟨#[]⟩, .string ⟨#[68]⟩] 9)) (TextPost [tX, t0, t0, tD] (w3.alloc (.cells #[Value.string ⟨#[88]⟩, .string ⟨#[]⟩, .string ⟨#[]⟩, .string ⟨#[68]⟩] 9)))) := Lib.hid (fun w3 => text_calls (some ⟨w3.heap.size, 0, none⟩) 4 [tX, t0, t0, tD] (w3.alloc (.cells #[Value.string ⟨#[88]⟩, .string ⟨#[]⟩, .string ⟨#[]⟩, .string ⟨#[68]⟩] 9)) (Strs.new _ [tX, t0, t0, tD]) (by simp))
  have HU := Lib.hid (fun (a : Option Addr) (ea ea' : Option Addr) (ec ec' : Nat) (evs evs' : List Ev) (w v v' : World) => ex_update a 3 ea ea' ec ec' evs evs' w v v')
  have HS : Hid (∀ (a a' : Option Addr) (c c' : Nat) (w : World), LksAt w a exM → LksAt w a' exM → Calls Tryz.prog 10 #[.slice a 3 c, .slice a' 3 c'] w fun e w' => e = .returned (.bool true) ∧ Below w.heap.size w w') := Lib.hid (fun a a' c c' w h h' => by have := same_links a a' c c' exM exM w h h' (by simp [exM]); rwa [decide_eq_true rfl] at this)
  have hb2 : Hid (Below w.heap.size w ((w.alloc (.cells #[Value.int .i64 1, .int .i64 11, .int .u8 1, Value.int .i64 2, .int .i64 12, .int .u8 1, Value.int .i64 3, .int .i64 0, .int .u8 3] 49)).alloc (.cells #[Value.string ⟨#[65]⟩, .string ⟨#[66]⟩, .string ⟨#[67]⟩] 9))) := Lib.hid (((Below.refl _ _).alloc (Nat.le_refl _) _).alloc (by simp) _)
  have HL2 : Hid (LksAt ((w.alloc (.cells #[Value.int .i64 1, .int .i64 11, .int .u8 1, Value.int .i64 2, .int .i64 12, .int .u8 1, Value.int .i64 3, .int .i64 0, .int .u8 3] 49)).alloc (.cells #[Value.string ⟨#[65]⟩, .string ⟨#[66]⟩, .string ⟨#[67]⟩] 9)) (some ⟨w.heap.size, 0, none⟩) exL) := Lib.hid (HL.out.later ((Below.refl _ _).alloc (Nat.le_refl _) _))
  simp only [Doc.enc, textDoc] at HU
  have HE := Lib.hid hE
  clear hE
  go_enter Tryz.func7, Tryz.ntmps7
  go_wp2_with fail
  refine H1.out.mono ?_
  rintro e w3 ⟨ea, ec, evs, rfl, hE1, hT1, hb3⟩
  have hc3 := hb2.out.trans (hb3.mono hb2.out.size)
  have HL3 := Lib.hid (HL2.out.later hb3)
  have HE1 := Lib.hid hE1
  have HT1 := Lib.hid hT1
  clear hb3 hE1 hT1 H1
  simp only [Doc.enc, textDoc]
  go_wp2_with fail
  refine (H2.out _).mono ?_
  rintro e w5 ⟨ea', ec', evs', rfl, hE2, hT2, hb5⟩
  have hk5 : Below w3.heap.size w3 w5 := ((Below.refl w3.heap.size w3).alloc (Nat.le_refl _) _).trans (hb5.mono (by simp))
  have hc5 := hc3.trans (hk5.mono hc3.size)
  have HUU := Lib.hid (HU.out (some ⟨w.heap.size, 0, none⟩) ea ea' ec ec' evs evs' w5 w3 w5 (HE.out.below hc5 (Nat.le_refl _)) (HL3.out.later hk5) (HE1.out.later hk5) hE2 HT1.out hT2)
  clear hb5 hE2 hT2 H2 HU
  simp only [Doc.enc, textDoc]
  go_wp2_with fail
  refine HUU.out.mono ?_
  rintro e w6 ⟨a6, c6, rfl, hL6, hb6⟩
  have hc6 := hc5.trans (hb6.mono hc5.size)
  have HSS := Lib.hid (HS.out a6 (some ⟨w6.heap.size, 0, none⟩) c6 3 _ (hL6.later ((Below.refl w6.heap.size w6).alloc (Nat.le_refl _) (.cells #[Value.int .i64 1, .int .i64 11, .int .u8 2, Value.int .i64 2, .int .i64 12, .int .u8 4, Value.int .i64 4, .int .i64 0, .int .u8 3] 49))) (HM.out w6))
  have HC7 := Lib.hid (fun w7 (h : Below (w6.alloc (.cells #[Value.int .i64 1, .int .i64 11, .int .u8 2, Value.int .i64 2, .int .i64 12, .int .u8 4, Value.int .i64 4, .int .i64 0, .int .u8 3] 49)).heap.size (w6.alloc (.cells #[Value.int .i64 1, .int .i64 11, .int .u8 2, Value.int .i64 2, .int .i64 12, .int .u8 4, Value.int .i64 4, .int .i64 0, .int .u8 3] 49)) w7) => (hc6.alloc hc6.size (.cells #[Value.int .i64 1, .int .i64 11, .int .u8 2, Value.int .i64 2, .int .i64 12, .int .u8 4, Value.int .i64 4, .int .i64 0, .int .u8 3] 49)).trans (h.mono (by have := hc6.size; simp; omega)))
  clear hL6 hb6 HUU
  go_wp2_with fail
  refine HSS.out.mono ?_
  rintro e w7 ⟨rfl, hb7⟩
  have hc7 := HC7.out _ hb7
  clear hb7
  go_wp2_with fail
  go_ret
  exact ⟨rfl, hc7⟩

end Go.Proofs.YtdgakmpopgpijaaGreatDoor
