/- What the printed functions of the reference come to, in plain words (users, addresses, kinds, the copies of rules); condition: texts of at most 2^63 - 1 bytes. -/
import Derived.Test.YtajndnaeknfogaaDoorGq
import Derived.Test.YtajndnaeknfogaaDoorQB
namespace Go.Proofs.YtajndnaeknfogaaDoor.Q
open Go.RowKit Go.Proofs.YtajndnaeknfogaaDoorW.PrintWords Go.Proofs.YtajndnaeknfogaaDoorW.PrintLast Go.Proofs.YtajndnaeknfogaaDoorW.PrintMore
set_option linter.unusedVariables false
set_option linter.unusedSimpArgs false

theorem Ev.yes {α : Type} {c : Prop} [Decidable c] {a b : Nat → Option α} {r : α} (h : c) (k : Ev a r) : Ev (fun n => if c then a n else b n) r := Ev.congr (fun _ => if_pos h) k
theorem Ev.no {α : Type} {c : Prop} [Decidable c] {a b : Nat → Option α} {r : α} (h : ¬ c) (k : Ev b r) : Ev (fun n => if c then a n else b n) r := Ev.congr (fun _ => if_neg h) k

theorem bt_nat {s : ByteArray} {i : Nat} (h : i < s.size) : bt s (i : Int) = ((s.data.toList[i]'(by rw [size_list]; exact h)).toNat : Int) := by
  unfold bt
  simp only [Int.toNat_natCast, h, dif_pos]
  simp
  rfl
theorem low_int (b : UInt8) : isLow b = ((decide ((b.toNat : Int) ≥ 97) && decide ((b.toNat : Int) ≤ 122)) || (decide ((b.toNat : Int) ≥ 48) && decide ((b.toNat : Int) ≤ 57))) := by
  unfold isLow
  rw [Bool.eq_iff_iff]
  simp [UInt8.le_iff_toNat_le]
  omega
theorem wrap_next {i n : Nat} (h : i < n) (hn : n ≤ 9223372036854775807) : wrap64 ((i : Int) + 1) = ((i + 1 : Nat) : Int) := by
  rw [wrap_in (by omega) (by omega)]; rfl

theorem User_from (s : ByteArray) (hs : s.size ≤ 9223372036854775807) : ∀ (n i : Nat), i + n = s.size →
    Ev (fun k => tidewaterref05_User.l0 k s i) ((s.data.toList.drop i).all isLow && decide (1 ≤ s.size) && decide (s.size ≤ 16)) := by
  intro n
  induction n with
  | zero =>
    intro i hi
    refine Ev.step (fun k => tidewaterref05_User.l0.eq_2 ..) ?_
    refine Ev.no (by omega) ?_
    rw [List.drop_of_length_le (by rw [size_list]; omega)]
    by_cases h1 : 1 ≤ s.size
    · refine Ev.yes (by omega) ?_
      have : decide ((s.size : Int) ≤ 16) = decide (s.size ≤ 16) := by rw [decide_eq_decide]; omega
      simp only [this, h1, List.all_nil, decide_true, Bool.true_and]
      exact Ev.now _
    · refine Ev.no (by omega) ?_
      simp only [h1, decide_false, Bool.and_false, Bool.false_and]
      exact Ev.now _
  | succ n ih =>
    intro i hi
    have hlt : i < s.size := by omega
    refine Ev.step (fun k => tidewaterref05_User.l0.eq_2 ..) ?_
    have := ih (i + 1) (by omega)
    rw [← wrap_next hlt hs] at this
    simp only [if_pos (show (i : Int) < (s.size : Int) by omega), if_pos (show (0 : Int) ≤ (i : Int) by omega), bt_nat hlt]
    rw [List.drop_eq_getElem_cons (by rw [size_list]; exact hlt), List.all_cons, low_int]
    generalize s.data.toList[i]'(by rw [size_list]; exact hlt) = c at *
    by_cases a1 : (c.toNat : Int) ≥ 97
    · by_cases a2 : (c.toNat : Int) ≤ 122
      · simpa only [a1, a2, if_true, decide_true, Bool.true_and, Bool.true_or] using this
      · by_cases a3 : (c.toNat : Int) ≥ 48
        · have a4 : ¬ (c.toNat : Int) ≤ 57 := by omega
          simp only [a1, a2, a3, a4, if_true, if_false, decide_true, decide_false, Bool.and_false, Bool.or_false, Bool.false_and]; exact Ev.now _
        · omega
    · by_cases a3 : (c.toNat : Int) ≥ 48
      · by_cases a4 : (c.toNat : Int) ≤ 57
        · simpa only [a1, a3, a4, if_true, if_false, decide_true, decide_false, Bool.false_and, Bool.true_and, Bool.false_or] using this
        · simp only [a1, a3, a4, if_true, if_false, decide_true, decide_false, Bool.and_false, Bool.or_false, Bool.false_and]; exact Ev.now _
      · simp only [a1, a3, if_false, decide_false, Bool.false_and, Bool.or_false]; exact Ev.now _

theorem UserR_ev (s : ByteArray) (hs : s.size ≤ 9223372036854775807) : Ev (fun k => tidewaterref05_User.f k s) (userL s.data.toList) := by
  have := User_from s hs s.size 0 (by omega)
  rw [List.drop_zero] at this
  unfold userL
  rw [size_list]
  unfold tidewaterref05_User.f
  rw [show (decide (1 ≤ s.size) && decide (s.size ≤ 16) && s.data.toList.all isLow) = (s.data.toList.all isLow && decide (1 ≤ s.size) && decide (s.size ≤ 16)) by
    cases s.data.toList.all isLow <;> cases decide (1 ≤ s.size) <;> cases decide (s.size ≤ 16) <;> rfl]
  exact this

theorem Address_from (s : ByteArray) (hs : s.size ≤ 9223372036854775807) : ∀ (n i : Nat), i + n = s.size → (∀ k : Nat, k < i → s.data.toList[k]? ≠ some 47) →
    Ev (fun k => tidewaterref05_Address.l0 k s i) (ofL (preL s.data.toList), ofL (postL s.data.toList), okL s.data.toList) := by
  intro n
  have hl := size_list s
  induction n with
  | zero =>
    intro i hi hno
    refine Ev.step (fun k => tidewaterref05_Address.l0.eq_2 ..) ?_
    refine Ev.no (by omega) ?_
    rcases slash s.data.toList with ⟨h1, h2, h3, h4⟩ | ⟨j, h0, h1, h2, h3, h4⟩
    · unfold okL
      rw [h2, h3, h4, ofL_eq]
      simp only [Bool.not_false, Bool.true_or, Bool.and_true]
      exact Ev.bind (UserR_ev s hs) (Ev.now _)
    · exact absurd (Lib.indexByte_some h1).1 (hno j (by omega))
  | succ n ih =>
    intro i hi hno
    have hlt : i < s.size := by omega
    have hlt' : i < s.data.toList.length := by omega
    refine Ev.step (fun k => tidewaterref05_Address.l0.eq_2 ..) ?_
    simp only [if_pos (show (i : Int) < (s.size : Int) by omega), if_pos (show (0 : Int) ≤ (i : Int) by omega), bt_nat hlt, wrap_next hlt hs]
    by_cases hc : s.data.toList[i] = 47
    · have e1 : ((s.data.toList[i]).toNat : Int) = 47 := by rw [hc]; rfl
      refine Ev.yes e1 (Ev.yes (by omega) (Ev.yes (by omega) (Ev.yes (by omega) ?_)))
      rcases slash s.data.toList with ⟨h1, h2, h3, h4⟩ | ⟨j, h0, h1, h2, h3, h4⟩
      · exact absurd (by rw [List.getElem?_eq_getElem hlt', hc]) (Lib.indexByte_none h1 i)
      · have hj : j = i := by
          rcases Nat.lt_trichotomy j i with h | h | h
          · exact absurd (Lib.indexByte_some h1).1 (hno j h)
          · exact h
          · exact absurd (by rw [List.getElem?_eq_getElem hlt', hc]) ((Lib.indexByte_some h1).2 i h)
        subst hj
        have x1 : s.extract 0 j = ofL (preL s.data.toList) := ext_of (by rw [Lib.extract_data, h2]; simp)
        have x2 : s.extract (j + 1) s.size = ofL (postL s.data.toList) := ext_of (by rw [Lib.extract_to_end, h3])
        have z1 : (ofL (preL s.data.toList)).size ≤ 9223372036854775807 := by rw [← size_list, ofL_data, h2, List.length_take]; omega
        have z2 : (ofL (postL s.data.toList)).size ≤ 9223372036854775807 := by rw [← size_list, ofL_data, h3, List.length_drop]; omega
        simp only [Int.toNat_natCast, x1, x2]
        have u1 := UserR_ev _ z1
        have u2 := UserR_ev _ z2
        rw [ofL_data] at u1 u2
        refine Ev.bind u1 ?_
        unfold okL
        rw [h4]
        cases userL (preL s.data.toList)
        · simp only [Bool.false_eq_true, if_false, Bool.false_and]; exact Ev.now _
        · simp only [if_true, Bool.true_and, Bool.not_true, Bool.false_or]; exact Ev.bind u2 (Ev.now _)
    · have e1 : ¬ ((s.data.toList[i]).toNat : Int) = 47 := by
        intro h; exact hc (UInt8.toNat_inj.mp (by have h47 : (47 : UInt8).toNat = 47 := rfl; omega))
      refine Ev.no e1 ?_
      refine ih (i + 1) (by omega) fun k hk => ?_
      rcases Nat.lt_or_ge k i with h | h
      · exact hno k h
      · rw [show k = i by omega, List.getElem?_eq_getElem hlt']; simpa using hc

theorem AddressR_ev (s : ByteArray) (hs : s.size ≤ 9223372036854775807) : Ev (fun k => tidewaterref05_Address.f k s) (ofL (preL s.data.toList), ofL (postL s.data.toList), okL s.data.toList) :=
  Address_from s hs s.size 0 (by omega) (fun k h => absurd h (Nat.not_lt_zero k))

/-! ### kinds -/
def kindC (K : Int) (t : List UInt8) : Int := match kindL K t with | [] => 0 | c :: _ => c.toNat

theorem kindR_ev (a0_0 : Int) (a0_1 a0_2 a0_3 a0_4 a0_5 a0_6 a0_7 : ByteArray) (a0_8 a0_9 : Int) (a0_10 : Bool) (l0_11 : List S142) :
    Ev (fun k => tidewaterref24_kind.f k a0_0 a0_1 a0_2 a0_3 a0_4 a0_5 a0_6 a0_7 a0_8 a0_9 a0_10 l0_11) (kindC a0_0 a0_1.data.toList) := by
  unfold tidewaterref24_kind.f
  have j1 : ∀ b : Bool, Ev (fun k => tidewaterref24_kind.j1 k b a0_0 a0_1 a0_2 a0_3 a0_4 a0_5 a0_6 a0_7 a0_8 a0_9 a0_10 l0_11)
      (if b = true then 112 else if actL a0_1.data.toList = true then 115 else 0) := by
    intro b
    refine Ev.step (fun k => tidewaterref24_kind.j1.eq_2 ..) ?_
    cases b
    · simp only [Bool.false_eq_true, if_false, Lib.toList_data]
      unfold actL
      generalize a0_1.data.toList = l
      by_cases h1 : l = [115, 117, 98, 115, 99, 114, 105, 98, 101]
      · simp [h1]; exact Ev.now _
      · by_cases h2 : l = [115, 117, 98, 115, 99, 114, 105, 98, 101, 100]
        · simp [h2]; exact Ev.now _
        · by_cases h3 : l = [117, 110, 115, 117, 98, 115, 99, 114, 105, 98, 101]
          · simp [h3]; exact Ev.now _
          · by_cases h4 : l = [117, 110, 115, 117, 98, 115, 99, 114, 105, 98, 101, 100]
            · simp [h4]; exact Ev.now _
            · simp [h1, h2, h3, h4]; exact Ev.now _
    · simp only [if_true]; exact Ev.now _
  have j0 : ∀ b : Bool, Ev (fun k => tidewaterref24_kind.j0 k b a0_0 a0_1 a0_2 a0_3 a0_4 a0_5 a0_6 a0_7 a0_8 a0_9 a0_10 l0_11)
      (if b = true then 113 else if a0_0 = 1 then (if a0_1.data.toList = [] ∨ a0_1.data.toList = [117, 110, 97, 118, 97, 105, 108, 97, 98, 108, 101] then 112 else if actL a0_1.data.toList = true then 115 else 0) else 0) := by
    intro b
    refine Ev.step (fun k => tidewaterref24_kind.j0.eq_2 ..) ?_
    cases b
    · simp only [Bool.false_eq_true, if_false, Lib.toList_data]
      by_cases h1 : a0_0 = 1
      · simp only [if_pos h1]
        by_cases h2 : a0_1.data.toList = []
        · simp only [h2, if_true, true_or]
          have := j1 true
          simpa using this
        · simp only [h2, if_false, false_or]
          have := j1 (a0_1.data.toList == [117, 110, 97, 118, 97, 105, 108, 97, 98, 108, 101])
          by_cases h3 : a0_1.data.toList = [117, 110, 97, 118, 97, 105, 108, 97, 98, 108, 101]
          · rw [show (a0_1.data.toList == ([117, 110, 97, 118, 97, 105, 108, 97, 98, 108, 101] : List UInt8)) = true from by rw [h3]; rfl] at this ⊢
            simp only [if_true, h3] at this ⊢
            exact this
          · rw [show (a0_1.data.toList == ([117, 110, 97, 118, 97, 105, 108, 97, 98, 108, 101] : List UInt8)) = false from beq_eq_false_iff_ne.mpr h3] at this ⊢
            simp only [h3, if_false, Bool.false_eq_true] at this ⊢
            exact this
      · simp only [if_neg h1]; exact Ev.now _
    · simp only [if_true]; exact Ev.now _
  unfold kindC kindL
  by_cases h1 : a0_0 ≥ 2
  · simp only [if_pos h1, if_neg (show ¬ a0_0 = 1 by omega)]
    have := j0 (decide (a0_0 ≤ 5))
    by_cases h2 : a0_0 ≤ 5
    · simp only [h2, decide_true, if_true, if_pos (show 2 ≤ a0_0 ∧ True from ⟨h1, trivial⟩)] at this ⊢; exact this
    · rw [if_neg (by omega)]
      simp only [h2, decide_false, Bool.false_eq_true, if_false, if_neg (show ¬ a0_0 = 1 by omega)] at this ⊢; exact this
  · simp only [if_neg h1]
    have := j0 false
    simp only [Bool.false_eq_true, if_false] at this
    by_cases h3 : a0_0 = 1
    · simp only [if_pos h3] at this ⊢
      by_cases h4 : a0_1.data.toList = [] ∨ a0_1.data.toList = [117, 110, 97, 118, 97, 105, 108, 97, 98, 108, 101]
      · simp only [if_pos h4] at this ⊢; exact this
      · simp only [if_neg h4] at this ⊢
        cases ha : actL a0_1.data.toList <;> simp only [ha, if_true, Bool.false_eq_true, if_false] at this ⊢ <;> exact this
    · simp only [if_neg h3] at this ⊢
      rw [if_neg (by omega)]; exact this

theorem about_from (b : Bool) (s w : ByteArray) (c : UInt8) (hs : s.size ≤ 9223372036854775807) : ∀ (n i : Nat), i + n = s.size →
    Ev (fun k => tidewaterref24_about.l0 k c.toNat i b s w) ((s.data.toList.drop i).any (fun x => decide (x.toNat = c.toNat))) := by
  intro n
  induction n with
  | zero =>
    intro i hi
    refine Ev.step (fun k => tidewaterref24_about.l0.eq_2 ..) ?_
    refine Ev.no (by omega) ?_
    rw [List.drop_of_length_le (by rw [size_list]; omega)]
    exact Ev.now _
  | succ n ih =>
    intro i hi
    have hlt : i < s.size := by omega
    refine Ev.step (fun k => tidewaterref24_about.l0.eq_2 ..) ?_
    have := ih (i + 1) (by omega)
    rw [← wrap_next hlt hs] at this
    simp only [if_pos (show (i : Int) < (s.size : Int) by omega), if_pos (show (0 : Int) ≤ (i : Int) by omega), bt_nat hlt]
    rw [List.drop_eq_getElem_cons (by rw [size_list]; exact hlt), List.any_cons]
    generalize s.data.toList[i]'(by rw [size_list]; exact hlt) = x at *
    by_cases h : x.toNat = c.toNat
    · simp only [h, if_true, decide_true, Bool.true_or]; exact Ev.now _
    · refine Ev.no (by omega) ?_
      simp only [h, decide_false, Bool.false_or]; exact this
theorem aboutR_ev (b : Bool) (s w : ByteArray) (c : UInt8) (hs : s.size ≤ 9223372036854775807) : Ev (fun k => tidewaterref24_about.f k b s w c.toNat) (aboutL s.data.toList [c]) := by
  unfold tidewaterref24_about.f aboutL
  rw [Lib.toList_data]
  by_cases h : s.data.toList = []
  · simp only [h, if_true, decide_true, Bool.true_or]; exact Ev.now _
  · simp only [h, if_false, decide_false, Bool.false_or]
    have := about_from b s w c hs s.size 0 (by omega)
    simpa using this

theorem kindsR_ev (s : ByteArray) : Ev (fun k => tidewaterref24_kinds.f k s) (kindsL s.data.toList) := by
  refine Ev.of (k := 9) (fun k => tidewaterref24_kinds.mono _ _) ?_
  unfold tidewaterref24_kinds.f kindsL
  have w : ∀ n : Nat, n < 8 → wrap64 ((n : Int) + 1) = ((n + 1 : Nat) : Int) := fun n hn => by unfold wrap64; omega
  have w0 : wrap64 (0 + 1) = 1 := w 0 (by omega)
  have w1 : wrap64 (1 + 1) = 2 := w 1 (by omega)
  have w2 : wrap64 (2 + 1) = 3 := w 2 (by omega)
  have w3 : wrap64 (3 + 1) = 4 := w 3 (by omega)
  have w4 : wrap64 (4 + 1) = 5 := w 4 (by omega)
  have w5 : wrap64 (5 + 1) = 6 := w 5 (by omega)
  have w6 : wrap64 (6 + 1) = 7 := w 6 (by omega)
  have w7 : wrap64 (7 + 1) = 8 := w 7 (by omega)
  simp only [tidewaterref24_kinds.l0, w0, w1, w2, w3, w4, w5, w6, w7, rdOf, List.length_cons, List.length_nil, Lib.toList_data]
  generalize s.data.toList = l
  by_cases h0 : l = []
  · subst h0; rfl
  · by_cases h1 : l = [112]
    · subst h1; rfl
    · by_cases h2 : l = [115]
      · subst h2; rfl
      · by_cases h3 : l = [113]
        · subst h3; rfl
        · by_cases h4 : l = [112, 115]
          · subst h4; rfl
          · by_cases h5 : l = [112, 113]
            · subst h5; rfl
            · by_cases h6 : l = [115, 113]
              · subst h6; rfl
              · by_cases h7 : l = [112, 115, 113]
                · subst h7; rfl
                · simp [h0, h1, h2, h3, h4, h5, h6, h7, Ne.symm h0, Ne.symm h1, Ne.symm h2, Ne.symm h3, Ne.symm h4, Ne.symm h5, Ne.symm h6, Ne.symm h7]

/-! ### the copies of rules -/
def toP (x : S35) : S37 := ⟨x.f0, x.f1, x.f2⟩
theorem rd_T35_at {l : List S35} {k : Nat} (h : k < l.length) : rd_T35 l (k : Int) = l[k] := by
  unfold rd_T35; rw [List.getD_eq_getElem?_getD, List.getElem?_eq_getElem (by simpa using h)]; rfl

theorem back_from (l : List S35) (hl : l.length ≤ 40) : ∀ (n i : Nat), i + n = l.length →
    Ev (fun k => tidewaterlaw24_back.l0 k l ((l.take i).map toP) i) (l.map toP) := by
  intro n
  induction n with
  | zero =>
    intro i hi
    refine Ev.step (fun k => tidewaterlaw24_back.l0.eq_2 ..) ?_
    refine Ev.no (by omega) ?_
    rw [List.take_of_length_le (by omega)]
    exact Ev.now _
  | succ n ih =>
    intro i hi
    have hlt : i < l.length := by omega
    refine Ev.step (fun k => tidewaterlaw24_back.l0.eq_2 ..) ?_
    have := ih (i + 1) (by omega)
    rw [← wrap_next hlt (by omega), List.take_succ_eq_append_getElem hlt, List.map_append] at this
    refine Ev.yes (by omega) (Ev.yes (by omega) (Ev.yes (by omega) (Ev.yes (by simp; omega) ?_)))
    simp only [rd_T35_at hlt]
    exact this
theorem back_ev (l : List S35) (hl : l.length ≤ 40) : Ev (fun k => tidewaterlaw24_back.f k l) (l.map toP) := by
  have := back_from l hl l.length 0 (by omega)
  simpa [tidewaterlaw24_back.f] using this

theorem SameInts_from (a b : List Int) (h : a.length = b.length) (hm : a.length ≤ 9223372036854775807) : ∀ (n i : Nat), i + n = a.length → a.take i = b.take i →
    Ev (fun k => tidewaterref08_SameInts.l0 k a b i) (decide (a = b)) := by
  intro n
  induction n with
  | zero =>
    intro i hi he
    refine Ev.step (fun k => tidewaterref08_SameInts.l0.eq_2 ..) ?_
    refine Ev.no (by omega) ?_
    rw [List.take_of_length_le (by omega), List.take_of_length_le (by omega)] at he
    rw [decide_eq_true he]; exact Ev.now _
  | succ n ih =>
    intro i hi he
    have hlt : i < a.length := by omega
    have hlb : i < b.length := by omega
    refine Ev.step (fun k => tidewaterref08_SameInts.l0.eq_2 ..) ?_
    refine Ev.yes (by omega) (Ev.yes (by omega) (Ev.yes (by omega) ?_))
    have ra : rd a (i : Int) = a[i] := by unfold rd; rw [List.getD_eq_getElem?_getD, List.getElem?_eq_getElem (by simpa using hlt)]; rfl
    have rb : rd b (i : Int) = b[i] := by unfold rd; rw [List.getD_eq_getElem?_getD, List.getElem?_eq_getElem (by simpa using hlb)]; rfl
    rw [ra, rb, wrap_next hlt hm]
    by_cases hx : a[i] = b[i]
    · simp only [if_pos hx]
      exact ih (i + 1) (by omega) (by rw [List.take_succ_eq_append_getElem hlt, List.take_succ_eq_append_getElem hlb, he, hx])
    · simp only [if_neg hx]
      rw [decide_eq_false (fun e => hx (by subst e; rfl))]; exact Ev.now _
theorem SameInts_ev (a b : List Int) (hm : a.length ≤ 9223372036854775807) : Ev (fun k => tidewaterref08_SameInts.f k a b) (decide (a = b)) := by
  unfold tidewaterref08_SameInts.f
  by_cases h : a.length = b.length
  · simp only [if_pos (show (a.length : Int) = (b.length : Int) by omega)]
    exact SameInts_from a b h hm a.length 0 (by omega) rfl
  · simp only [if_neg (show ¬ (a.length : Int) = (b.length : Int) by omega)]
    rw [decide_eq_false (fun e => h (by rw [e]))]; exact Ev.now _
end Go.Proofs.YtajndnaeknfogaaDoor.Q
