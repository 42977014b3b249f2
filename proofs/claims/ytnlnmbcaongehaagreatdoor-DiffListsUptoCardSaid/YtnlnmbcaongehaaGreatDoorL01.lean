/- The contracts of the reference's neat, spanned, Less and Len of events: the same specifications as the program's. The contracts of the reference's Default, CheckList, Find and usable of regions: the same specifications as the program's. The contract of the reference's Place. -/
import Derived.Test.YtnlnmbcaongehaaGreatDoorL00
import Derived.Test.YtnlnmbcaongehaaGreatDoorBase03
import Derived.Test.YtnlnmbcaongehaaGreatDoorBase02
import Derived.Test.YtnlnmbcaongehaaGreatDoorBase01
import Derived.Test.YtnlnmbcaongehaaGreatDoorBase00
set_option linter.unusedVariables false
set_option linter.unusedSimpArgs false
namespace Go.Proofs.YtnlnmbcaongehaaGreatDoor
open Go.RowKit
def twoAt (l : List UInt8) (i : Nat) : Prop := l[i]? = some 32 ∧ l[i + 1]? = some 32
theorem occ_two (l : List UInt8) (i : Nat) : Lib.occAt l [32, 32] i = true ↔ twoAt l i := by
  have h0 : l[i]? = (l.drop i)[0]? := by rw [List.getElem?_drop]; rfl
  have h1 : l[i + 1]? = (l.drop i)[1]? := by rw [List.getElem?_drop]
  unfold twoAt Lib.occAt
  rw [h0, h1]
  match l.drop i with
  | [] => simp
  | [a] => simp
  | a :: b :: r =>
    constructor
    · intro h
      simp [List.isPrefixOf] at h
      obtain ⟨rfl, rfl⟩ := h
      exact ⟨rfl, rfl⟩
    · rintro ⟨h1, h2⟩
      simp at h1 h2
      subst h1
      subst h2
      rfl
theorem contains_yes (l : List UInt8) (i : Nat) (h : twoAt l i) : Lib.contains l [32, 32] = true := by
  unfold Lib.contains
  rw [decide_eq_true_iff]
  rcases Lib.index_spec l [32, 32] with ⟨_, h2⟩ | ⟨j, h2, _⟩
  · have hi : i < l.length := (List.getElem?_eq_some_iff.1 h.1).1
    have := h2 i (by omega)
    rw [(occ_two l i).2 h] at this
    cases this
  · rw [h2]; omega
theorem contains_no (l : List UInt8) (h : ∀ i, ¬ twoAt l i) : Lib.contains l [32, 32] = false := by
  unfold Lib.contains
  rw [decide_eq_false_iff_not]
  rcases Lib.index_spec l [32, 32] with ⟨h1, _⟩ | ⟨j, _, _, h3, _⟩
  · rw [h1]; omega
  · exact absurd ((occ_two l j).1 h3) (h j)
theorem byte_at (s : ByteArray) (k : Nat) (h : k < s.size) : s.data.toList[k]? = some s[k] := by
  rw [List.getElem?_eq_getElem (by simpa using h)]
  rfl
theorem byte_32 (c : UInt8) : c.toNat = 32 ↔ c = 32 := by
  constructor
  · intro h; exact UInt8.toNat_inj.1 h
  · rintro rfl; rfl
/-- No two spaces in a row in the first k bytes. -/
def neatTo (s : ByteArray) (k : Nat) : Prop := ∀ j, j + 1 < k → ¬ twoAt s.data.toList j
theorem neatTo_succ (s : ByteArray) (k : Nat) (hk : k < s.size) (h1 : 1 ≤ k) (h : neatTo s k) (hn : ¬ (s[k].toNat = 32 ∧ s[k - 1].toNat = 32)) : neatTo s (k + 1) := by
  intro j hj
  by_cases hjk : j + 1 = k
  · subst hjk
    rintro ⟨a, b⟩
    rw [byte_at s j (by omega)] at a
    rw [byte_at s (j + 1) hk] at b
    simp only [Option.some.injEq] at a b
    exact hn ⟨(byte_32 _).2 b, by simp only [Nat.add_sub_cancel]; exact (byte_32 _).2 a⟩
  · exact h j (by omega)
theorem neatTo_stop (s : ByteArray) (k : Nat) (hk : k < s.size) (h1 : 1 ≤ k) (h2 : s[k].toNat = 32) (h3 : s[k - 1].toNat = 32) : Lib.contains s.data.toList [32, 32] = true := by
  refine contains_yes _ (k - 1) ⟨?_, ?_⟩
  · rw [byte_at s (k - 1) (by omega), (byte_32 _).1 h3]
  · rw [show k - 1 + 1 = k by omega, byte_at s k hk, (byte_32 _).1 h2]
theorem neatTo_all (s : ByteArray) (h : neatTo s s.size) : Lib.contains s.data.toList [32, 32] = false := by
  refine contains_no _ fun i ht => ?_
  have hi : i + 1 < s.data.toList.length := (List.getElem?_eq_some_iff.1 ht.2).1
  exact h i (by simpa using hi) ht
set_option maxHeartbeats 1600000 in
theorem refNeat_calls (s : ByteArray) (w : World) (hs : s.size ≤ 4000000) :
    Calls Tryz.prog 178 #[.string s] w fun e w' => e = .returned (.bool (!untidy s)) ∧ w = w' := by
  rcases untidy_cases s with ⟨h0, hu⟩ | ⟨h0, ⟨h1, hu⟩ | ⟨h1, h2, hu⟩ | ⟨h1, h2, hu⟩⟩
  · rw [hu]
    have he : s.toList = [] := (empty_str s).1 h0
    have he2 : s.toList.isEmpty = true := by simpa using he
    clear hu
    go_enter Tryz.func178, Tryz.ntmps178
    go_wp2
    go_ret
    exact ⟨rfl, rfl⟩
  · rw [hu]
    have he : ¬ s.toList = [] := fun h => by have := (empty_str s).2 h; omega
    have he2 : s.toList.isEmpty = false := by simpa using he
    have hq : ((s[0].toNat : Int) == 32) = true := by simp; omega
    clear hu
    go_enter Tryz.func178, Tryz.ntmps178
    go_wp2
    go_ret
    exact ⟨rfl, rfl⟩
  · rw [hu]
    have he : ¬ s.toList = [] := fun h => by have := (empty_str s).2 h; omega
    have he2 : s.toList.isEmpty = false := by simpa using he
    have hq : ((s[0].toNat : Int) == 32) = false := by simp; omega
    have hq2 : ((s[s.size - 1].toNat : Int) == 32) = true := by simp; omega
    have hwr : IntKind.i64.wrap ((s.size : Int) - 1) = (s.size : Int) - 1 := IntWalk.i64_in _ (by omega)
    have hkn : ((s.size : Int) - 1).toNat = s.size - 1 := by omega
    have hkl : (s.size : Int) - 1 < (s.size : Int) := by omega
    have hkz : (1 : Int) ≤ (s.size : Int) := by omega
    clear hu
    go_enter Tryz.func178, Tryz.ntmps178
    go_wp2
    go_ret
    exact ⟨rfl, rfl⟩
  · rw [hu]
    have he : ¬ s.toList = [] := fun h => by have := (empty_str s).2 h; omega
    have he2 : s.toList.isEmpty = false := by simpa using he
    have hq : ((s[0].toNat : Int) == 32) = false := by simp; omega
    have hq2 : ((s[s.size - 1].toNat : Int) == 32) = false := by simp; omega
    have hwr : IntKind.i64.wrap ((s.size : Int) - 1) = (s.size : Int) - 1 := IntWalk.i64_in _ (by omega)
    have hkn : ((s.size : Int) - 1).toNat = s.size - 1 := by omega
    have hkl : (s.size : Int) - 1 < (s.size : Int) := by omega
    have hkz : (1 : Int) ≤ (s.size : Int) := by omega
    clear hu
    have HEND := Lib.hid (neatTo_all s)
    have HSTOP := Lib.hid (neatTo_stop s)
    generalize Lib.contains s.data.toList [32, 32] = C at *
    go_enter Tryz.func178, Tryz.ntmps178
    go_wp2
    go_loop [3] (fun i => ∃ k : Nat, 1 ≤ k ∧ k ≤ s.size ∧ i = .int .i64 k ∧ neatTo s k) (fun i => s.size - (intOf i).toNat)
    case atStart => exact ⟨1, by omega, by omega, rfl, fun j hj => by omega⟩
    case round =>
      obtain ⟨k, hk1, hk, rfl, hn⟩ := hrel
      by_cases hlt : k < s.size
      · have HS := Lib.hid (neatTo_succ s k hlt hk1 hn)
        have hq := s[k].toNat_lt
        have hwr : IntKind.i64.wrap ((k : Int) - 1) = (k : Int) - 1 := IntWalk.i64_in _ (by omega)
        have hkn : ((k : Int) - 1).toNat = k - 1 := by omega
        have hkl : (k : Int) - 1 < (s.size : Int) := by omega
        have hkz : (1 : Int) ≤ (k : Int) := by omega
        have hk1s : k - 1 < s.size := by omega
        clear hn
        by_cases ha : s[k].toNat = 32
        · have ha' : ((s[k].toNat : Int) == 32) = true := by simp; omega
          by_cases hb : s[k - 1].toNat = 32
          · have hb' : ((s[k - 1].toNat : Int) == 32) = true := by simp; omega
            have HC := Lib.hid (HSTOP.out k hlt hk1 ha hb)
            go_wp2
            go_ret
            rw [HC.out]; exact ⟨rfl, rfl⟩
          · have hb' : ((s[k - 1].toNat : Int) == 32) = false := by simp; omega
            have HC := Lib.hid (HS.out (fun h => hb h.2))
            go_wp2
            go_round
            case rel => exact ⟨k + 1, by omega, by omega, by go_num, HC.out⟩
            case measure => simp [intOf]; omega
        · have ha' : ((s[k].toNat : Int) == 32) = false := by simp; omega
          have HC := Lib.hid (HS.out (fun h => ha h.1))
          go_wp2
          go_round
          case rel => exact ⟨k + 1, by omega, by omega, by go_num, HC.out⟩
          case measure => simp [intOf]; omega
      · obtain rfl : k = s.size := by omega
        have HC := Lib.hid (HEND.out hn)
        clear hn
        go_wp2
        go_ret
        rw [HC.out]; exact ⟨rfl, rfl⟩
set_option maxHeartbeats 800000 in
theorem refSpans_calls (a b : Int) (w : World) : Calls Tryz.prog 175 #[.agg #[.int .i64 a, .int .i64 b]] w fun e w' => e = .returned (.bool (spansB a b)) ∧ Below w.heap.size w w' := by
  rcases (show a < 0 ∨ (0 ≤ a ∧ b ≤ a) ∨ (0 ≤ a ∧ a < b ∧ 5184000 < b) ∨ (0 ≤ a ∧ a < b ∧ b ≤ 5184000) by omega) with h | ⟨h1, h2⟩ | ⟨h1, h2, h3⟩ | ⟨h1, h2, h3⟩
  · have HS := Lib.hid (show spansB a b = false by simp [spansB]; omega)
    have h' : decide (0 ≤ a) = false := by simp; omega
    go_enter Tryz.func175, Tryz.ntmps175
    go_wp2
    go_ret
    rw [HS.out]; exact ⟨rfl, (Below.refl _ _).alloc (Nat.le_refl _) _⟩
  · have HS := Lib.hid (show spansB a b = false by simp [spansB]; omega)
    have h' : decide (a < b) = false := by simp; omega
    go_enter Tryz.func175, Tryz.ntmps175
    go_wp2
    go_ret
    rw [HS.out]; exact ⟨rfl, (Below.refl _ _).alloc (Nat.le_refl _) _⟩
  · have HS := Lib.hid (show spansB a b = false by simp [spansB]; omega)
    have h' : decide (b ≤ 5184000) = false := by simp; omega
    go_enter Tryz.func175, Tryz.ntmps175
    go_wp2
    go_ret
    rw [HS.out]; exact ⟨rfl, (Below.refl _ _).alloc (Nat.le_refl _) _⟩
  · have HS := Lib.hid (show spansB a b = true by simp [spansB]; omega)
    go_enter Tryz.func175, Tryz.ntmps175
    go_wp2
    go_ret
    rw [HS.out]; exact ⟨rfl, (Below.refl _ _).alloc (Nat.le_refl _) _⟩
theorem compare_neg (a b : Int) : (Lib.compareInt a b = 0 ↔ a = b) ∧ (Lib.compareInt a b < 0 ↔ a < b) := by
  unfold Lib.compareInt
  repeat' split
  all_goals omega
theorem lessB_iff (x y : Ev) : lessB x y = decide (x.inn < y.inn ∨ (x.inn = y.inn ∧ x.id < y.id)) := by
  unfold lessB
  rw [decide_eq_decide]
  have h1 := compare_neg x.inn y.inn
  have h2 := compare_neg x.id y.id
  generalize Lib.compareInt x.inn y.inn = A at *
  generalize Lib.compareInt x.id y.id = B at *
  simp only [orL]
  repeat' split
  all_goals simp_all
  all_goals omega
set_option maxHeartbeats 1600000 in
theorem refLess_calls (x y : Ev) (w : World) : Calls Tryz.prog 101 #[.agg x.enc.toArray, .agg y.enc.toArray] w fun e w' => e = .returned (.bool (lessB x y)) ∧ Below w.heap.size w w' := by
  rw [lessB_iff]
  obtain ⟨id, inn, out, region, kind, speaker, ra, rc, rows⟩ := x
  obtain ⟨id', inn', out', region', kind', speaker', ra', rc', rows'⟩ := y
  simp only [Ev.enc]
  have HB := Lib.hid (fun o o' => (((Below.refl _ _).alloc (Nat.le_refl _) _).alloc (by simp) _ : Below w.heap.size w ((w.alloc o).alloc o')))
  rcases (show inn < inn' ∨ (inn' < inn ∧ (inn == inn') = false) ∨ (inn = inn') by
    by_cases h : inn = inn'
    · exact .inr (.inr h)
    · by_cases h2 : inn < inn'
      · exact .inl h2
      · exact .inr (.inl ⟨by omega, by simpa using h⟩)) with h | ⟨h, h'⟩ | rfl
  · have HD := Lib.hid (show decide (inn < inn' ∨ (inn = inn' ∧ id < id')) = true by simp; omega)
    rw [HD.out]
    clear HD
    go_enter Tryz.func101, Tryz.ntmps101
    go_wp2
    go_ret
    exact ⟨rfl, HB.out _ _⟩
  · have HD := Lib.hid (show decide (inn < inn' ∨ (inn = inn' ∧ id < id')) = false by simp; omega)
    rw [HD.out]
    clear HD
    have hl : decide (inn < inn') = false := by simp; omega
    go_enter Tryz.func101, Tryz.ntmps101
    go_wp2
    go_ret
    exact ⟨rfl, HB.out _ _⟩
  · have HD := Lib.hid (show decide (inn < inn ∨ (inn = inn ∧ id < id')) = decide (id < id') by simp)
    rw [HD.out]
    clear HD
    have hl : decide (inn < inn) = false := by simp
    have hl2 : (inn == inn) = true := by simp
    go_enter Tryz.func101, Tryz.ntmps101
    go_wp2
    go_ret
    exact ⟨rfl, HB.out _ _⟩
end Go.Proofs.YtnlnmbcaongehaaGreatDoor
namespace Go.Proofs.YtnlnmbcaongehaaGreatDoor
open Go.RowKit
theorem refDefault_calls (w : World) : Calls Tryz.prog 241 #[] w fun e w' => e = .returned (.agg defReg.enc.toArray) ∧ Below w.heap.size w w' := by
  simp only [defReg, Reg.enc]
  go_enter Tryz.func241, Tryz.ntmps241
  go_wp2
  exact bodyPost_ret (v := .agg #[.string ⟨#[]⟩, .int .i64 11, .int .i64 4, .int .i64 0, .int .i64 32, .int .u8 2, .bool true]) (by simp [results, Tryz.results241, go_sem]) rfl ⟨rfl, (Below.refl _ _).alloc (Nat.le_refl _) _⟩
theorem refList_many (a : Option Addr) (cap : Nat) (xs : List Reg) (w : World) (hn : 16 < xs.length) :
    Calls Tryz.prog 99 #[.slice a xs.length cap] w fun e w' => e = .returned (.int .i64 (listErr xs)) ∧ Below w.heap.size w w' := by
  rw [listErr, if_pos hn]
  have hn' : (16 : Int) < (xs.length : Int) := by omega
  go_enter Tryz.func99, Tryz.ntmps99
  go_wp2_with fail
  go_ret
  exact ⟨rfl, Below.refl _ _⟩
set_option maxHeartbeats 3200000 in
theorem refList_few (a : Option Addr) (cap : Nat) (xs : List Reg) (w : World) (hR : Regs w a xs) (hf : ∀ x ∈ xs, x.fits) (hn : xs.length ≤ 16) :
    Calls Tryz.prog 99 #[.slice a xs.length cap] w fun e w' => e = .returned (.int .i64 (listErr xs)) ∧ Below w.heap.size w w' := by
  rw [listErr, if_neg (by omega)]
  generalize hG : listFrom none xs = G
  have H0 := Lib.hid (show listFrom (prevOf xs 0) (xs.drop 0) = G by rw [List.drop_zero]; exact hG)
  have hn2 : decide ((16 : Int) < (xs.length : Int)) = false := by simp; omega
  clear hG
  go_enter Tryz.func99, Tryz.ntmps99
  go_wp2_with fail
  go_loopw [11] (fun i wr => ∃ k : Nat, k ≤ xs.length ∧ i = .int .i64 k ∧ listFrom (prevOf xs k) (xs.drop k) = G ∧ Below w.heap.size w wr) (fun i _ => xs.length - (intOf i).toNat)
  case atStart => exact ⟨0, by omega, rfl, H0.out, Below.refl _ _⟩
  case round =>
    obtain ⟨k, hk, rfl, hp, hb⟩ := hrel
    by_cases hlt : k < xs.length
    · obtain ⟨b, off, x, rfl, hbl, hx, hc, _⟩ := (hR.later hb).at_ hlt
      have hfx := hf x (List.mem_of_getElem? hx)
      have HC := Lib.hid (fun w => refReg_calls x w hfx)
      have hB1 : ∀ (o : Obj) (w1 : World), Below (wr.heap.size + 1) (wr.alloc o) w1 → Below w.heap.size w w1 := fun o w1 h => (hb.alloc hb.size o).trans (h.mono (by have := hb.size; omega))
      have HB1 := Lib.hid hB1
      have HN := Lib.hid (listFrom_next xs k x hx (prevOf xs k))
      have HS := Lib.hid (listFrom_stop xs k x hx (prevOf xs k))
      have HP := Lib.hid hp
      have hRr := hR.later hb
      obtain ⟨xn, xt, xh, xl, xw, xa, xb⟩ := x
      have d0 := hc 0 _ rfl; have d1 := hc 1 _ rfl; have d2 := hc 2 _ rfl; have d3 := hc 3 _ rfl; have d4 := hc 4 _ rfl; have d5 := hc 5 _ rfl; have d6 := hc 6 _ rfl
      simp only [Nat.add_zero] at d0 d1 d2 d3 d4 d5 d6
      cases hE : regErr ⟨xn, xt, xh, xl, xw, xa, xb⟩ != 0
      · have hE0 : regErr ⟨xn, xt, xh, xl, xw, xa, xb⟩ = 0 := by simpa using hE
        have HE0 := Lib.hid hE0
        simp only [Reg.enc] at HC
        rw [hE0] at HC
        clear hE hE0 hp hB1 hc
        rcases Nat.eq_zero_or_pos k with hk0 | hk0
        · have hst := Lib.hid (show stepErr (prevOf xs k) ⟨xn, xt, xh, xl, xw, xa, xb⟩ = 0 by rw [hk0]; simp [stepErr, prevOf, HE0.out])
          have hkd : decide (0 < k) = false := by simp; omega
          clear hRr hk0
          go_wp2_with (go_at_call 174; refine (HC.out _).mono ?_; rintro e w1 ⟨rfl, hb1⟩; simp only [World.size_alloc] at hb1)
          go_quiet (fail)
          go_wp2_with fail
          go_quiet (fail)
          go_wp2_with fail
          go_roundw
          case rel => exact ⟨k + 1, by omega, by go_num, by rw [← HN.out hst.out]; exact HP.out, below_drewN (HB1.out _ _ hb1) _⟩
          case measure => simp [intOf]; omega
        · obtain ⟨b', off', y, hab, _, hy, hcy, _⟩ := hRr.at_ (show k - 1 < xs.length by omega)
          simp only [Option.some.injEq, Addr.mk.injEq, and_true] at hab
          obtain ⟨rfl, rfl⟩ := hab
          obtain ⟨yn, yt, yh, yl, yw, ya, yb⟩ := y
          have e0 := hcy 0 _ rfl
          simp only [Nat.add_zero] at e0
          have hpv : prevOf xs k = some yn := by
            obtain ⟨j, rfl⟩ : ∃ j, k = j + 1 := ⟨k - 1, by omega⟩
            simp only [Nat.add_sub_cancel] at hy
            simp [prevOf, hy]
          have hst : stepErr (prevOf xs k) ⟨xn, xt, xh, xl, xw, xa, xb⟩ = if (xn.toList == yn.toList) = true then 7 else if Op.bytesLess xn.toList yn.toList = true then 8 else 0 := by
            rw [hpv]; simp [stepErr, HE0.out]
          have hcell : ∀ w1, Below (wr.heap.size + 1) (wr.alloc (.cells #[.string xn, .int .i64 xt, .int .i64 xh, .int .i64 xl, .int .i64 xw, .int .u8 xa, .bool xb] 44)) w1 → w1.cell? ⟨wr.heap.size, 0, none⟩ = some (.string xn) ∧ w1.cell? ⟨b, off + (k - 1) * 7, none⟩ = some (.string yn) := fun w1 h =>
            ⟨box_cell wr _ _ 0 _ rfl w1 h, by
              rw [h.cell (p := ⟨b, off + (k - 1) * 7, none⟩) (by simp; omega), World.cell?_alloc_lt _ _ _ (by simpa using hbl)]
              exact e0⟩
          have HCELL := Lib.hid hcell
          have hkd : decide (0 < k) = true := by simp; omega
          have hk1 : 1 ≤ k := hk0
          have hkz : (1 : Int) ≤ (k : Int) := by omega
          have hkl : (k : Int) - 1 < (xs.length : Int) := by omega
          have hwr : IntKind.i64.wrap ((k : Int) - 1) = (k : Int) - 1 := IntWalk.i64_in _ (by omega)
          have hkn : ((k : Int) - 1).toNat = k - 1 := by omega
          clear hcell hpv hRr hcy hy e0 hk0
          rcases h1 : xn.toList == yn.toList with _ | _
          · rcases h2 : Op.bytesLess xn.toList yn.toList with _ | _
            · rw [h1, h2, if_neg (by decide), if_neg (by decide)] at hst
              have HST := Lib.hid hst
              clear hst
              go_wp2_with (go_at_call 174; refine (HC.out _).mono ?_; rintro e w1 ⟨rfl, hb1⟩; simp only [World.size_alloc] at hb1; have hq1 := (HCELL.out _ hb1).1; have hq2 := (HCELL.out _ hb1).2)
              go_quiet (fail)
              go_wp2_with fail
              go_quiet (fail)
              go_wp2_with fail
              go_roundw
              case rel => exact ⟨k + 1, by omega, by go_num, by rw [← HN.out HST.out]; exact HP.out, below_drewN (HB1.out _ _ hb1) _⟩
              case measure => simp [intOf]; omega
            · rw [h1, h2, if_neg (by decide), if_pos rfl] at hst
              have HST := Lib.hid hst
              clear hst
              go_wp2_with (go_at_call 174; refine (HC.out _).mono ?_; rintro e w1 ⟨rfl, hb1⟩; simp only [World.size_alloc] at hb1; have hq1 := (HCELL.out _ hb1).1; have hq2 := (HCELL.out _ hb1).2)
              go_quiet (fail)
              go_wp2_with fail
              go_quiet (fail)
              go_wp2_with fail
              go_ret
              exact ⟨ret_int (by rw [← HP.out, HS.out (by rw [HST.out]; rfl), HST.out]), below_drewN (below_drewN (HB1.out _ _ hb1) _) _⟩
          · rw [h1, if_pos rfl] at hst
            have HST := Lib.hid hst
            clear hst
            go_wp2_with (go_at_call 174; refine (HC.out _).mono ?_; rintro e w1 ⟨rfl, hb1⟩; simp only [World.size_alloc] at hb1; have hq1 := (HCELL.out _ hb1).1; have hq2 := (HCELL.out _ hb1).2)
            go_quiet (fail)
            go_wp2_with fail
            go_ret
            exact ⟨ret_int (by rw [← HP.out, HS.out (by rw [HST.out]; rfl), HST.out]), below_drewN (HB1.out _ _ hb1) _⟩
      · have hst : stepErr (prevOf xs k) ⟨xn, xt, xh, xl, xw, xa, xb⟩ = regErr ⟨xn, xt, xh, xl, xw, xa, xb⟩ := by unfold stepErr; exact if_pos hE
        have HST := Lib.hid hst
        simp only [Reg.enc] at HC
        generalize regErr ⟨xn, xt, xh, xl, xw, xa, xb⟩ = E at *
        clear hst hp hB1 hc hRr hfx hx
        go_wp2_with (go_at_call 174; refine (HC.out _).mono ?_; rintro e w1 ⟨rfl, hb1⟩; simp only [World.size_alloc] at hb1)
        go_ret
        exact ⟨ret_int (by rw [← HP.out, HS.out (by rw [HST.out]; exact hE), HST.out]), HB1.out _ _ hb1⟩
    · obtain rfl : k = xs.length := by omega
      rw [List.drop_length] at hp
      have HP := Lib.hid hp
      clear hp H0
      go_wp2_with fail
      go_ret
      exact ⟨ret_int (by rw [← HP.out]; cases prevOf xs xs.length <;> rfl), hb⟩
theorem refList_calls (a : Option Addr) (cap : Nat) (xs : List Reg) (w : World) (hR : Regs w a xs) (hf : ∀ x ∈ xs, x.fits) :
    Calls Tryz.prog 99 #[.slice a xs.length cap] w fun e w' => e = .returned (.int .i64 (listErr xs)) ∧ Below w.heap.size w w' := by
  by_cases hn : 16 < xs.length
  · exact refList_many a cap xs w hn
  · exact refList_few a cap xs w hR hf (by omega)
set_option maxHeartbeats 800000 in
theorem refRFind_none (a : Option Addr) (cap : Nat) (xs : List Reg) (nm : ByteArray) (w : World) (hm : nm.toList = []) :
    Calls Tryz.prog 176 #[.slice a xs.length cap, .string nm] w (FindPost (findR xs nm) w) := by
  have hF : findR xs nm = (defReg, true) := by rw [findR, if_pos hm]
  rw [hF]
  have HD := Lib.hid (fun w => refDefault_calls w)
  clear hF
  go_enter Tryz.func176, Tryz.ntmps176
  go_wp2_with fail
  refine (HD.out _).mono ?_
  rintro e w1 ⟨rfl, hb1⟩
  rw [World.size_alloc] at hb1
  obtain ⟨c0, c1, c2, c3, c4, c5, c6, z0, z1, z2, z3, z4, z5, z6⟩ := ZeroBox.of w w1 hb1
  have HB := Lib.hid (box_below hb1)
  have hlt : w.heap.size < w1.heap.size := by have := hb1.size; rw [World.size_alloc] at this; omega
  clear hb1 HD
  simp only [defReg, Reg.enc]
  go_wp2_with fail
  exact bodyPost_ret (v := .tuple #[.agg #[.string ⟨#[]⟩, .int .i64 11, .int .i64 4, .int .i64 0, .int .i64 32, .int .u8 2, .bool true], .bool true]) (by simp [results, Tryz.results176, go_sem, *]) rfl ⟨rfl, below_seven HB.out (Nat.le_refl _) _ _ _ _ _ _ _⟩
set_option maxHeartbeats 1600000 in
theorem refRFind_some (a : Option Addr) (cap : Nat) (xs : List Reg) (nm : ByteArray) (w : World) (hR : Regs w a xs) (hm : ¬ nm.toList = []) (hl : xs.length ≤ 4000000) :
    Calls Tryz.prog 176 #[.slice a xs.length cap, .string nm] w (FindPost (findR xs nm) w) := by
  have hF : findR xs nm = findL nm xs := by rw [findR, if_neg hm]
  rw [hF]
  generalize hG : findL nm xs = G
  have H0 := Lib.hid (show findL nm (xs.drop 0) = G by rw [List.drop_zero]; exact hG)
  have hsz : (w.alloc (.cells zeroCells 44)).heap.size = w.heap.size + 1 := World.size_alloc _ _
  have hme : nm.toList.isEmpty = false := by simpa using hm
  clear hF hG
  go_enter Tryz.func176, Tryz.ntmps176
  go_wp2_with fail
  go_loopw [13] (fun i wr => ∃ k : Nat, k ≤ xs.length ∧ i = .int .i64 k ∧ findL nm (xs.drop k) = G ∧ Below (w.heap.size + 1) (w.alloc (.cells zeroCells 44)) wr) (fun i _ => xs.length - (intOf i).toNat)
  case atStart => exact ⟨0, by omega, rfl, H0.out, Below.refl _ _⟩
  case round =>
    obtain ⟨k, hk, rfl, hp, hb⟩ := hrel
    have hbw := box_below hb
    obtain ⟨c0, c1, c2, c3, c4, c5, c6, z0, z1, z2, z3, z4, z5, z6⟩ := ZeroBox.of w wr hb
    have hlt0 : w.heap.size < wr.heap.size := by have := hb.size; rw [hsz] at this; omega
    by_cases hlt : k < xs.length
    · obtain ⟨b, off, x, rfl, hbl, hx, hc, _⟩ := (hR.later hbw).at_ hlt
      cases he : x.name.toList == nm.toList
      · have hP := findL_drop_no nm xs k x hx he
        rw [hP] at hp
        obtain ⟨xn, xt, xh, xl, xw, xa, xb⟩ := x
        have d0 := hc 0 _ rfl; have d1 := hc 1 _ rfl; have d2 := hc 2 _ rfl; have d3 := hc 3 _ rfl; have d4 := hc 4 _ rfl; have d5 := hc 5 _ rfl; have d6 := hc 6 _ rfl
        simp only [Nat.add_zero] at he d0 d1 d2 d3 d4 d5 d6
        have HP := Lib.hid hp
        have HB := Lib.hid (fun o => below_alloc1 hb (by rw [hsz]; omega) o)
        clear hp hP hc hx H0 c0 c1 c2 c3 c4 c5 c6 z0 z1 z2 z3 z4 z5 z6 hsz hR hb hbw
        go_wp2_with fail
        go_roundw
        case rel => exact ⟨k + 1, by omega, by go_num, HP.out, HB.out _⟩
        case measure => simp [intOf]; omega
      · have hP := findL_drop_yes nm xs k x hx he
        rw [hP] at hp
        obtain ⟨xn, xt, xh, xl, xw, xa, xb⟩ := x
        have d0 := hc 0 _ rfl; have d1 := hc 1 _ rfl; have d2 := hc 2 _ rfl; have d3 := hc 3 _ rfl; have d4 := hc 4 _ rfl; have d5 := hc 5 _ rfl; have d6 := hc 6 _ rfl
        simp only [Nat.add_zero] at he d0 d1 d2 d3 d4 d5 d6
        have HP := Lib.hid hp
        have HB := Lib.hid hbw
        clear hp hP hc hx H0 hsz hR hb hbw
        go_wp2_with fail
        exact bodyPost_ret (v := .tuple #[.agg #[.string xn, .int .i64 xt, .int .i64 xh, .int .i64 xl, .int .i64 xw, .int .u8 xa, .bool xb], .bool true]) (by simp [results, Tryz.results176, go_sem, *]) rfl
          ⟨by rw [← HP.out]; rfl, below_seven_alloc HB.out (Nat.le_refl _) _ _ _ _ _ _ _ _⟩
    · obtain rfl : k = xs.length := by omega
      rw [List.drop_length] at hp
      have HP := Lib.hid hp
      have HB := Lib.hid hbw
      clear hp H0 hsz hR hb hbw
      go_wp2_with fail
      exact bodyPost_ret (v := .tuple #[.agg #[.string ⟨#[]⟩, .int .i64 0, .int .i64 0, .int .i64 0, .int .i64 0, .int .u8 0, .bool false], .bool false]) (by simp [results, Tryz.results176, go_sem, *]) rfl
        ⟨by rw [← HP.out]; rfl, below_seven HB.out (Nat.le_refl _) _ _ _ _ _ _ _⟩
theorem refRFind_calls (a : Option Addr) (cap : Nat) (xs : List Reg) (nm : ByteArray) (w : World) (hR : Regs w a xs) (hl : xs.length ≤ 4000000) :
    Calls Tryz.prog 176 #[.slice a xs.length cap, .string nm] w (FindPost (findR xs nm) w) := by
  by_cases hm : nm.toList = []
  · exact refRFind_none a cap xs nm w hm
  · exact refRFind_some a cap xs nm w hR hm hl
set_option maxHeartbeats 1600000 in
theorem refUsable_calls (x : Reg) (w : World) (hf : x.fits) :
    Calls Tryz.prog 244 #[.agg x.enc.toArray] w fun e w' => e = .returned (.bool (usableB x)) ∧ Below w.heap.size w w' := by
  have hU : usableB x = (isDef x || regErr x == 0) := rfl
  have hq := run_isDef x
  have hc := fun w => refReg_calls x w hf
  have hd := fun w => refDefault_calls w
  obtain ⟨nm, top, height, left, width, align, bottom⟩ := x
  generalize regErr ⟨nm, top, height, left, width, align, bottom⟩ = E at *
  generalize usableB ⟨nm, top, height, left, width, align, bottom⟩ = U at *
  generalize hD : isDef ⟨nm, top, height, left, width, align, bottom⟩ = D at *
  simp only [Reg.enc, defReg] at hq hc hd ⊢
  have HC := Lib.hid hc; have HD := Lib.hid hd
  clear hc hd hf hD
  generalize hcs : #[Value.string nm, .int .i64 top, .int .i64 height, .int .i64 left, .int .i64 width, .int .u8 align, .bool bottom] = cs
  have f0 := box_cell w cs 44 0 (.string nm) (by rw [← hcs]; rfl)
  have f1 := box_cell w cs 44 1 (.int .i64 top) (by rw [← hcs]; rfl)
  have f2 := box_cell w cs 44 2 (.int .i64 height) (by rw [← hcs]; rfl)
  have f3 := box_cell w cs 44 3 (.int .i64 left) (by rw [← hcs]; rfl)
  have f4 := box_cell w cs 44 4 (.int .i64 width) (by rw [← hcs]; rfl)
  have f5 := box_cell w cs 44 5 (.int .u8 align) (by rw [← hcs]; rfl)
  have f6 := box_cell w cs 44 6 (.bool bottom) (by rw [← hcs]; rfl)
  have HB := Lib.hid (fun (w1 : World) (h : Below (w.heap.size + 1) (w.alloc (.cells cs 44)) w1) => box_below h)
  have hb0 : Below (w.heap.size + 1) (w.alloc (.cells cs 44)) (w.alloc (.cells cs 44)).drew := (Below.refl _ _).drew
  have hsz : (w.alloc (.cells cs 44)).heap.size = w.heap.size + 1 := World.size_alloc _ _
  generalize hW0 : w.alloc (.cells cs 44) = W0 at *
  have HW0 := Lib.hid hW0
  have HSZ := Lib.hid hsz
  clear hW0 hsz
  go_enter Tryz.func244, Tryz.ntmps244
  subst hcs
  go_wp2_with fail
  rw [HW0.out]
  cases hE : E == 0
  · rw [hE, Bool.or_false] at hU
    have HU := Lib.hid hU
    clear hU
    go_region_with (first
      | (go_at_call 174; refine (HC.out _).mono ?_; rintro e w1 ⟨rfl, hb1⟩; replace hb1 : Below (w.heap.size + 1) W0 w1 := hb0.trans (hb1.mono (by have := hb0.size; rw [HSZ.out] at this; exact this)))
      | (go_at_call 241; refine (HD.out _).mono ?_; rintro e w2 ⟨rfl, hb2⟩; replace hb2 : Below (w.heap.size + 1) W0 w2 := hb1.trans (hb2.mono (by have := hb1.size; rw [HSZ.out] at this; exact this))))
    all_goals
      go_wp2_with fail
      go_ret
      rw [HU.out]
      exact ⟨rfl, HB.out _ hb2⟩
  · rw [hE, Bool.or_true] at hU
    have HU := Lib.hid hU
    clear hU
    go_region_with (first
      | (go_at_call 174; refine (HC.out _).mono ?_; rintro e w1 ⟨rfl, hb1⟩; replace hb1 : Below (w.heap.size + 1) W0 w1 := hb0.trans (hb1.mono (by have := hb0.size; rw [HSZ.out] at this; exact this))))
    all_goals
      go_wp2_with fail
      go_ret
      rw [HU.out]
      exact ⟨rfl, HB.out _ hb1⟩
end Go.Proofs.YtnlnmbcaongehaaGreatDoor
namespace Go.Proofs.YtnlnmbcaongehaaGreatDoor
open Go.RowKit
set_option maxRecDepth 100000 in
set_option maxHeartbeats 6400000 in
theorem refPlace_false (x : Reg) (a : Option Addr) (cap : Nat) (zs : List Int) (w : World) (hf : x.fits) (hI : Ints w a zs) (hl : zs.length ≤ 4000000) (hB : x.bottom = false) :
    Calls Tryz.prog 181 #[.agg x.enc.toArray, .slice a zs.length cap] w (PlacePost (placeErr x zs) w) := by
  have hU := fun w => refUsable_calls x w hf
  generalize hG : placeErr x zs = G
  unfold placeErr at hG
  obtain ⟨nm, top, height, left, width, align, bottom⟩ := x
  obtain ⟨_, hT, hH, hL, hW, ha0, ha1⟩ := hf
  simp only [i64] at hT hH hL hW ha0 ha1
  simp only at hB
  subst hB
  generalize usableB ⟨nm, top, height, left, width, align, false⟩ = U at *
  simp only [Reg.enc] at hU hG ⊢
  have HU := Lib.hid hU
  have HG := Lib.hid hG
  clear hU hG
  rcases (show U = false ∨ (U = true ∧ height < zs.length ∧ decide (height < (zs.length : Int)) = true) ∨ (U = true ∧ zs.length ≤ height ∧ decide (height < (zs.length : Int)) = false) by cases U <;> simp <;> omega) with rfl | ⟨rfl, hlh, hld⟩ | ⟨rfl, hlh, hld⟩
  all_goals
    generalize hcs : #[Value.string nm, .int .i64 top, .int .i64 height, .int .i64 left, .int .i64 width, .int .u8 align, .bool false] = cs
    have f0 := box_cell w cs 44 0 (.string nm) (by rw [← hcs]; rfl)
    have f1 := box_cell w cs 44 1 (.int .i64 top) (by rw [← hcs]; rfl)
    have f2 := box_cell w cs 44 2 (.int .i64 height) (by rw [← hcs]; rfl)
    have f3 := box_cell w cs 44 3 (.int .i64 left) (by rw [← hcs]; rfl)
    have f4 := box_cell w cs 44 4 (.int .i64 width) (by rw [← hcs]; rfl)
    have f5 := box_cell w cs 44 5 (.int .u8 align) (by rw [← hcs]; rfl)
    have f6 := box_cell w cs 44 6 (.bool false) (by rw [← hcs]; rfl)
    have HB := Lib.hid (fun (w1 : World) (h : Below (w.heap.size + 1) (w.alloc (.cells cs 44)) w1) => box_below h)
    have hb0 : Below (w.heap.size + 1) (w.alloc (.cells cs 44)) (w.alloc (.cells cs 44)) := Below.refl _ _
    have hsz : (w.alloc (.cells cs 44)).heap.size = w.heap.size + 1 := World.size_alloc _ _
    generalize hW0 : w.alloc (.cells cs 44) = W0 at *
    have HW0 := Lib.hid hW0
    have HSZ := Lib.hid hsz
    clear hW0 hsz
    go_enter Tryz.func181, Tryz.ntmps181
    subst hcs
    go_wp2_with fail
    rw [HW0.out]
    refine (HU.out _).mono ?_
    rintro e w1 ⟨rfl, hb1⟩
    rw [HSZ.out] at hb1
    clear HW0
    go_wp2_with fail
  · go_ret2
    exact ⟨.slice none 0 0, ret_two (by rw [← HG.out, if_pos (by decide)]), HB.out _ hb1⟩
  · go_ret2
    exact ⟨.slice none 0 0, ret_two (by rw [← HG.out, if_neg (by decide), if_pos hlh]), HB.out _ hb1⟩
  · obtain ⟨i0, hi, hz0, hz1, hz2⟩ := info_parts Tryz.info280
    have HI := Lib.hid hi; have H0 := Lib.hid hz0; have H1 := Lib.hid hz1; have H2 := Lib.hid hz2
    clear hi hz0 hz1 hz2
    have hp0 : placeFrom width (zs.drop 0) = G := by
      rw [List.drop_zero, ← HG.out, if_neg (by decide), if_neg (by omega)]
    have HP0 := Lib.hid hp0
    clear hp0 HG
    go_loopw [6, 20] (fun v i wr => ∃ k : Nat, k ≤ zs.length ∧ i = .int .i64 k ∧ placeFrom width (zs.drop k) = G ∧ Grow3 (w.heap.size + 1) W0 k v wr) (fun _ i _ => zs.length - (intOf i).toNat)
    case atStart => exact ⟨0, by omega, rfl, HP0.out, ⟨[], World.ownsRow_nil _ _ _ _⟩, hb1⟩
    case round =>
      obtain ⟨k, hk, rfl, hp, hGr⟩ := hrel
      have hbr := hGr.2
      have hlt0 : w.heap.size < wr.heap.size := by have := hbr.size; rw [HSZ.out] at this; omega
      by_cases hlt : k < zs.length
      · obtain ⟨b, off, z, rfl, hbl, hz, hc, _⟩ := (hI.later (HB.out _ hbr)).at_ hlt
        have d0 := hc 0 _ rfl
        simp only [Nat.add_zero, Nat.mul_one] at d0
        rw [placeFrom_at width zs k z hz] at hp
        have HP := Lib.hid hp
        clear hp hc hz HP0 hI
        rcases (show z < 0 ∨ (0 ≤ z ∧ width < z) ∨ (0 ≤ z ∧ z ≤ width) by omega) with h | ⟨h, h'⟩ | ⟨h, h'⟩
        · go_wp2_with fail
          go_ret2
          exact ⟨.slice none 0 0, ret_two (by rw [← HP.out, if_pos h]), HB.out _ hbr⟩
        · go_wp2_with fail
          go_ret2
          exact ⟨.slice none 0 0, ret_two (by rw [← HP.out, if_neg (by omega), if_pos h']), HB.out _ hbr⟩
        · rw [if_neg (by omega), if_neg (by omega)] at HP
          have hal : (align = 3 ∨ align = 2 ∨ ((align == 3) = false ∧ (align == 2) = false)) := by
            by_cases h3 : align = 3
            · exact .inl h3
            · by_cases h2 : align = 2
              · exact .inr (.inl h2)
              · exact .inr (.inr ⟨by simpa using h3, by simpa using h2⟩)
          rcases hal with rfl | rfl | ⟨e3, e2⟩
          all_goals
            obtain ⟨xs, hown⟩ := hGr.1
            go_wp2_with (at_builtin; refine wpList_append_new _ _ rfl (.tmp 73) (.tmp 75) 226 rfl (w.heap.size + 1) 280 i0 _ 3 24 Tryz.underlying226 HI.out H0.out H1.out H2.out rfl (by decide) _ _ _ rfl (hown.alloc _) _ rfl (by simp) rfl ?h1 ?h63 ?hb ?hbase ?_)
            case h1 => exact ⟨rfl, rfl, rfl⟩
            case h63 => unfold maxLen; omega
            case hb => omega
            case hbase => simp; omega
            intro v' w2 hown' hgrow
            have R := Grow3.step hGr (by rw [HSZ.out]; omega) hown' hgrow
            clear hown' hgrow hGr hown
            go_wp2_with fail
            go_roundw
            case rel => exact ⟨k + 1, by omega, by go_num, HP.out, R⟩
            case measure => simp [intOf]; omega
      · obtain rfl : k = zs.length := by omega
        rw [List.drop_length] at hp
        have HP := Lib.hid hp
        clear hp HP0
        go_wp2_with fail
        go_ret2
        exact ⟨_, ret_two (by rw [← HP.out]; rfl), HB.out _ hbr⟩
set_option maxRecDepth 100000 in
set_option maxHeartbeats 6400000 in
theorem refPlace_true (x : Reg) (a : Option Addr) (cap : Nat) (zs : List Int) (w : World) (hf : x.fits) (hI : Ints w a zs) (hl : zs.length ≤ 4000000) (hB : x.bottom = true) :
    Calls Tryz.prog 181 #[.agg x.enc.toArray, .slice a zs.length cap] w (PlacePost (placeErr x zs) w) := by
  have hU := fun w => refUsable_calls x w hf
  generalize hG : placeErr x zs = G
  unfold placeErr at hG
  obtain ⟨nm, top, height, left, width, align, bottom⟩ := x
  obtain ⟨_, hT, hH, hL, hW, ha0, ha1⟩ := hf
  simp only [i64] at hT hH hL hW ha0 ha1
  simp only at hB
  subst hB
  generalize usableB ⟨nm, top, height, left, width, align, true⟩ = U at *
  simp only [Reg.enc] at hU hG ⊢
  have HU := Lib.hid hU
  have HG := Lib.hid hG
  clear hU hG
  rcases (show U = false ∨ (U = true ∧ height < zs.length ∧ decide (height < (zs.length : Int)) = true) ∨ (U = true ∧ zs.length ≤ height ∧ decide (height < (zs.length : Int)) = false) by cases U <;> simp <;> omega) with rfl | ⟨rfl, hlh, hld⟩ | ⟨rfl, hlh, hld⟩
  all_goals
    generalize hcs : #[Value.string nm, .int .i64 top, .int .i64 height, .int .i64 left, .int .i64 width, .int .u8 align, .bool true] = cs
    have f0 := box_cell w cs 44 0 (.string nm) (by rw [← hcs]; rfl)
    have f1 := box_cell w cs 44 1 (.int .i64 top) (by rw [← hcs]; rfl)
    have f2 := box_cell w cs 44 2 (.int .i64 height) (by rw [← hcs]; rfl)
    have f3 := box_cell w cs 44 3 (.int .i64 left) (by rw [← hcs]; rfl)
    have f4 := box_cell w cs 44 4 (.int .i64 width) (by rw [← hcs]; rfl)
    have f5 := box_cell w cs 44 5 (.int .u8 align) (by rw [← hcs]; rfl)
    have f6 := box_cell w cs 44 6 (.bool true) (by rw [← hcs]; rfl)
    have HB := Lib.hid (fun (w1 : World) (h : Below (w.heap.size + 1) (w.alloc (.cells cs 44)) w1) => box_below h)
    have hb0 : Below (w.heap.size + 1) (w.alloc (.cells cs 44)) (w.alloc (.cells cs 44)) := Below.refl _ _
    have hsz : (w.alloc (.cells cs 44)).heap.size = w.heap.size + 1 := World.size_alloc _ _
    generalize hW0 : w.alloc (.cells cs 44) = W0 at *
    have HW0 := Lib.hid hW0
    have HSZ := Lib.hid hsz
    clear hW0 hsz
    go_enter Tryz.func181, Tryz.ntmps181
    subst hcs
    go_wp2_with fail
    rw [HW0.out]
    refine (HU.out _).mono ?_
    rintro e w1 ⟨rfl, hb1⟩
    rw [HSZ.out] at hb1
    clear HW0
    go_wp2_with fail
  · go_ret2
    exact ⟨.slice none 0 0, ret_two (by rw [← HG.out, if_pos (by decide)]), HB.out _ hb1⟩
  · go_ret2
    exact ⟨.slice none 0 0, ret_two (by rw [← HG.out, if_neg (by decide), if_pos hlh]), HB.out _ hb1⟩
  · obtain ⟨i0, hi, hz0, hz1, hz2⟩ := info_parts Tryz.info280
    have HI := Lib.hid hi; have H0 := Lib.hid hz0; have H1 := Lib.hid hz1; have H2 := Lib.hid hz2
    clear hi hz0 hz1 hz2
    have hp0 : placeFrom width (zs.drop 0) = G := by
      rw [List.drop_zero, ← HG.out, if_neg (by decide), if_neg (by omega)]
    have HP0 := Lib.hid hp0
    clear hp0 HG
    go_loopw [6, 20] (fun v i wr => ∃ k : Nat, k ≤ zs.length ∧ i = .int .i64 k ∧ placeFrom width (zs.drop k) = G ∧ Grow3 (w.heap.size + 1) W0 k v wr) (fun _ i _ => zs.length - (intOf i).toNat)
    case atStart => exact ⟨0, by omega, rfl, HP0.out, ⟨[], World.ownsRow_nil _ _ _ _⟩, hb1⟩
    case round =>
      obtain ⟨k, hk, rfl, hp, hGr⟩ := hrel
      have hbr := hGr.2
      have hlt0 : w.heap.size < wr.heap.size := by have := hbr.size; rw [HSZ.out] at this; omega
      by_cases hlt : k < zs.length
      · obtain ⟨b, off, z, rfl, hbl, hz, hc, _⟩ := (hI.later (HB.out _ hbr)).at_ hlt
        have d0 := hc 0 _ rfl
        simp only [Nat.add_zero, Nat.mul_one] at d0
        rw [placeFrom_at width zs k z hz] at hp
        have HP := Lib.hid hp
        clear hp hc hz HP0 hI
        rcases (show z < 0 ∨ (0 ≤ z ∧ width < z) ∨ (0 ≤ z ∧ z ≤ width) by omega) with h | ⟨h, h'⟩ | ⟨h, h'⟩
        · go_wp2_with fail
          go_ret2
          exact ⟨.slice none 0 0, ret_two (by rw [← HP.out, if_pos h]), HB.out _ hbr⟩
        · go_wp2_with fail
          go_ret2
          exact ⟨.slice none 0 0, ret_two (by rw [← HP.out, if_neg (by omega), if_pos h']), HB.out _ hbr⟩
        · rw [if_neg (by omega), if_neg (by omega)] at HP
          have hal : (align = 3 ∨ align = 2 ∨ ((align == 3) = false ∧ (align == 2) = false)) := by
            by_cases h3 : align = 3
            · exact .inl h3
            · by_cases h2 : align = 2
              · exact .inr (.inl h2)
              · exact .inr (.inr ⟨by simpa using h3, by simpa using h2⟩)
          rcases hal with rfl | rfl | ⟨e3, e2⟩
          all_goals
            obtain ⟨xs, hown⟩ := hGr.1
            go_wp2_with (at_builtin; refine wpList_append_new _ _ rfl (.tmp 73) (.tmp 75) 226 rfl (w.heap.size + 1) 280 i0 _ 3 24 Tryz.underlying226 HI.out H0.out H1.out H2.out rfl (by decide) _ _ _ rfl (hown.alloc _) _ rfl (by simp) rfl ?h1 ?h63 ?hb ?hbase ?_)
            case h1 => exact ⟨rfl, rfl, rfl⟩
            case h63 => unfold maxLen; omega
            case hb => omega
            case hbase => simp; omega
            intro v' w2 hown' hgrow
            have R := Grow3.step hGr (by rw [HSZ.out]; omega) hown' hgrow
            clear hown' hgrow hGr hown
            go_wp2_with fail
            go_roundw
            case rel => exact ⟨k + 1, by omega, by go_num, HP.out, R⟩
            case measure => simp [intOf]; omega
      · obtain rfl : k = zs.length := by omega
        rw [List.drop_length] at hp
        have HP := Lib.hid hp
        clear hp HP0
        go_wp2_with fail
        go_ret2
        exact ⟨_, ret_two (by rw [← HP.out]; rfl), HB.out _ hbr⟩
theorem refPlace_calls (x : Reg) (a : Option Addr) (cap : Nat) (zs : List Int) (w : World) (hf : x.fits) (hI : Ints w a zs) (hl : zs.length ≤ 4000000) :
    Calls Tryz.prog 181 #[.agg x.enc.toArray, .slice a zs.length cap] w (PlacePost (placeErr x zs) w) := by
  cases hB : x.bottom
  · exact refPlace_false x a cap zs w hf hI hl hB
  · exact refPlace_true x a cap zs w hf hI hl hB
end Go.Proofs.YtnlnmbcaongehaaGreatDoor
