/- What the program's printed functions come to, in plain words: addresses, states, kinds, and whether a rule fits; condition: texts of at most 2^63 - 1 bytes. -/
import Derived.Test.YtajndnaeknfogaaDoorGb
import Derived.Test.YtajndnaeknfogaaDoorQA
namespace Go.Proofs.YtajndnaeknfogaaDoor.Q
open Go.RowKit Go.Proofs.YtajndnaeknfogaaDoorW.PrintWords Go.Proofs.YtajndnaeknfogaaDoorW.PrintLast Go.Proofs.YtajndnaeknfogaaDoorW.PrintMore
set_option linter.unusedVariables false
set_option linter.unusedSimpArgs false

def ofL (l : List UInt8) : ByteArray := ⟨l.toArray⟩
theorem ofL_eq (s : ByteArray) : ofL s.data.toList = s := by cases s; simp [ofL]
theorem ext_of {s : ByteArray} {l : List UInt8} (h : s.data.toList = l) : s = ofL l := by rw [← h, ofL_eq]
theorem ofL_list (l : List UInt8) : (ofL l).toList = l := by rw [Lib.toList_data]; simp [ofL]
theorem ofL_data (l : List UInt8) : (ofL l).data.toList = l := by simp [ofL]
theorem size_list (s : ByteArray) : s.data.toList.length = s.size := by rw [Array.length_toList]; rfl
theorem wrap_in {x : Int} (h0 : -9223372036854775808 ≤ x) (h1 : x ≤ 9223372036854775807) : wrap64 x = x := by unfold wrap64; omega

theorem slash (l : List UInt8) : (Lib.indexByte l 47 = -1 ∧ preL l = l ∧ postL l = [] ∧ hasL l = false) ∨
    ∃ i : Nat, i < l.length ∧ Lib.indexByte l 47 = i ∧ preL l = l.take i ∧ postL l = l.drop (i + 1) ∧ hasL l = true := by
  induction l with
  | nil => exact .inl ⟨rfl, rfl, rfl, rfl⟩
  | cons a l ih =>
    by_cases h : a = 47
    · subst h
      exact .inr ⟨0, by simp, by simp [Lib.indexByte], by simp [preL], by simp [postL], by simp [hasL]⟩
    · rcases ih with ⟨h1, h2, h3, h4⟩ | ⟨i, h0, h1, h2, h3, h4⟩
      · refine .inl ⟨by simp [Lib.indexByte, h, h1], ?_, ?_, ?_⟩
        · unfold preL at *; rw [List.takeWhile_cons_of_pos (by simp [h]), h2]
        · unfold postL at *; rw [List.dropWhile_cons_of_pos (by simp [h]), h3]
        · unfold hasL at *; rw [List.contains_cons, h4]; simp [Ne.symm h]
      · refine .inr ⟨i + 1, by simp; omega, ?_, ?_, ?_, ?_⟩
        · simp only [Lib.indexByte, h1]
          rw [if_neg (by simpa using h), if_neg (by simp)]; omega
        · unfold preL at *; rw [List.takeWhile_cons_of_pos (by simp [h]), h2, List.take_succ_cons]
        · unfold postL at *; rw [List.dropWhile_cons_of_pos (by simp [h]), h3, List.drop_succ_cons]
        · unfold hasL at *; rw [List.contains_cons, h4]; simp

theorem Address_eq (s : ByteArray) (hs : s.size ≤ 9223372036854775807) :
    stanza_Address.f s = some (ofL (preL s.data.toList), ofL (postL s.data.toList), okL s.data.toList) := by
  have hl := size_list s
  have hI : stringslite_Index.f s ⟨#[47]⟩ = some (Lib.indexByte s.data.toList 47) := by unfold stringslite_Index.f; rw [if_pos (by decide)]; rfl
  unfold stanza_Address.f strings_Cut.f stringslite_Cut.f
  rw [hI]
  simp only [Option.bind_some]
  rcases slash s.data.toList with ⟨h1, h2, h3, h4⟩ | ⟨i, h0, h1, h2, h3, h4⟩
  · rw [h1, h2, h3]
    simp only [Option.bind_some, stanza_User.f, userB]
    rw [if_neg (by omega)]
    simp only [Option.bind_some]
    unfold okL
    rw [h2, h4, ofL_eq]
    cases hu : userL s.data.toList <;> simp [ofL]
  · rw [h1]
    have hsz : ((⟨#[47]⟩ : ByteArray).size : Int) = 1 := rfl
    have hw : wrap64 ((i : Int) + 1) = (i : Int) + 1 := wrap_in (by omega) (by omega)
    have e1 : s.extract 0 i = ofL (preL s.data.toList) := ext_of (by rw [Lib.extract_data, h2]; simp)
    have e2 : s.extract (i + 1) s.size = ofL (postL s.data.toList) := ext_of (by rw [Lib.extract_to_end, h3])
    rw [hsz, hw, if_pos (by omega), if_pos (by omega), if_pos (by omega), if_pos (by omega), if_pos (by omega)]
    have t1 : ((i : Int)).toNat = i := by omega
    have t2 : ((i : Int) + 1).toNat = i + 1 := by omega
    rw [t1, t2, e1, e2]
    simp only [Option.bind_some, stanza_User.f, userB]
    unfold okL
    rw [h4, ofL_data, ofL_data]
    cases userL (preL s.data.toList) <;> simp

theorem Index4 (a b c d x : ByteArray) : slices_Index_string_string.f 5 [a, b, c, d] x =
    some (if x.toList = a.toList then 0 else if x.toList = b.toList then 1 else if x.toList = c.toList then 2 else if x.toList = d.toList then 3 else -1) := by
  have w1 : wrap64 (0 + 1) = 1 := by unfold wrap64; decide
  have w2 : wrap64 (1 + 1) = 2 := by unfold wrap64; decide
  have w3 : wrap64 (2 + 1) = 3 := by unfold wrap64; decide
  have w4 : wrap64 (3 + 1) = 4 := by unfold wrap64; decide
  have r0 : rdOf ByteArray.empty [a, b, c, d] 0 = a := rfl
  have r1 : rdOf ByteArray.empty [a, b, c, d] 1 = b := rfl
  have r2 : rdOf ByteArray.empty [a, b, c, d] 2 = c := rfl
  have r3 : rdOf ByteArray.empty [a, b, c, d] 3 = d := rfl
  unfold slices_Index_string_string.f
  simp only [slices_Index_string_string.l0, w1, w2, w3, w4, r0, r1, r2, r3, List.length_cons, List.length_nil]
  simp only [apply_ite (some : Int → Option Int)]
  simp

theorem Index_states (x : ByteArray) : Ev (fun k => slices_Index_string_string.f k [(⟨#[64, 110, 111, 110, 101]⟩ : ByteArray), (⟨#[64, 116, 111]⟩ : ByteArray), (⟨#[64, 102, 114, 111, 109]⟩ : ByteArray), (⟨#[64, 98, 111, 116, 104]⟩ : ByteArray)] x) (stateIx x.data.toList) := by
  refine Ev.of (k := 5) (fun k => slices_Index_string_string.mono _ _ _) ?_
  show slices_Index_string_string.f 5 _ _ = _
  rw [Index4]
  simp only [Lib.toList_data]
  rfl

/-! ### a text that ends with a star -/
theorem star_iff (l : List UInt8) : starL l = true ↔ ∃ h, l = h ++ [42] := by
  unfold starL
  rw [decide_eq_true_iff]
  constructor
  · intro h
    have hne : l ≠ [] := by rintro rfl; cases h
    rw [List.getLast?_eq_some_getLast hne] at h
    exact ⟨l.dropLast, by rw [← Option.some.inj h]; exact (List.dropLast_concat_getLast hne).symm⟩
  · rintro ⟨h, rfl⟩; simp

theorem CutSuffix_star (s : ByteArray) (hs : s.size ≤ 9223372036854775807) :
    strings_CutSuffix.f s ⟨#[42]⟩ = some (if starL s.data.toList then (ofL s.data.toList.dropLast, true) else (s, false)) := by
  have hl := size_list s
  have hsz : ((⟨#[42]⟩ : ByteArray).size : Int) = 1 := rfl
  have h42 : (⟨#[42]⟩ : ByteArray).toList = [42] := by rw [Lib.toList_data]
  unfold strings_CutSuffix.f stringslite_CutSuffix.f stringslite_HasSuffix.f
  rw [hsz, h42]
  by_cases h1 : 1 ≤ s.size
  · have hw : wrap64 ((s.size : Int) - 1) = (s.size : Int) - 1 := wrap_in (by omega) (by omega)
    have t : ((s.size : Int) - 1).toNat = s.size - 1 := by omega
    rw [hw, t]
    rw [if_pos (by omega), if_pos (by omega), if_pos (by omega)]
    have e1 : (s.extract (s.size - 1) s.size).toList = s.data.toList.drop (s.size - 1) := by rw [Lib.toList_data, Lib.extract_to_end]
    have e2 : s.extract 0 (s.size - 1) = ofL s.data.toList.dropLast := ext_of (by rw [Lib.extract_data, List.dropLast_eq_take, hl]; simp)
    simp only [Option.bind_some]
    rw [e1, e2]
    have e3 : (s.data.toList.drop (s.size - 1) == [42]) = starL s.data.toList := by
      rw [Bool.eq_iff_iff, star_iff, beq_iff_eq]
      constructor
      · intro h; exact ⟨s.data.toList.take (s.size - 1), by rw [← h, List.take_append_drop]⟩
      · rintro ⟨h, e⟩
        rw [e] at hl
        simp at hl
        rw [e, show s.size - 1 = h.length by omega]; simp
    rw [e3]
    cases starL s.data.toList
    · simp
    · simp only [if_true]; rw [if_pos (by omega), if_pos (by omega)]; rfl
  · have h0 : s.data.toList = [] := List.eq_nil_of_length_eq_zero (by omega)
    rw [if_neg (by omega), h0]
    rfl

theorem HasPrefix_eq (s p : ByteArray) : strings_HasPrefix.f s p = some (p.data.toList.isPrefixOf s.data.toList) := by
  have hl := size_list s
  have hp := size_list p
  unfold strings_HasPrefix.f stringslite_HasPrefix.f
  by_cases h : p.size ≤ s.size
  · rw [if_pos (by omega), if_pos (by omega), if_pos (by omega)]
    simp only [Option.bind_some, Int.toNat_natCast]
    rw [Lib.toList_data, Lib.toList_data, Lib.extract_data]
    congr 1
    rw [Bool.eq_iff_iff, beq_iff_eq, List.isPrefixOf_iff_prefix, List.prefix_iff_eq_take, hp]
    simp
    exact ⟨fun h => h.symm, fun h => h.symm⟩
  · rw [if_neg (by omega)]
    simp only [Option.bind_some]
    congr 1
    symm
    rw [Bool.eq_false_iff]
    intro h2
    rw [List.isPrefixOf_iff_prefix] at h2
    have := h2.length_le
    omega

theorem fits_ev (b : Bool) (kinds who own : ByteArray) (sub : Int) (hw : who.size ≤ 9223372036854775807) (ho : own.size ≤ 9223372036854775807) :
    Ev (fun k => rules_Rule_fits.f k b kinds who own sub) (fitsL who.data.toList own.data.toList sub) := by
  unfold rules_Rule_fits.f rules_states.f
  simp only [Option.bind_some]
  refine Ev.bind (Index_states who) ?_
  rw [Address_eq own ho, CutSuffix_star who hw, Address_eq who hw]
  simp only [Option.bind_some]
  unfold fitsL
  by_cases h0 : 0 ≤ stateIx who.data.toList
  · rw [if_pos h0]
    simp only [ge_iff_le, h0, if_true]
    exact Ev.now _
  · rw [if_neg h0]
    simp only [ge_iff_le, h0, if_false]
    cases hst : starL who.data.toList
    · simp only [Bool.false_eq_true, if_false, ofL_list]
      cases okL own.data.toList <;> cases okL who.data.toList <;> simp only [Bool.false_and, Bool.true_and, Bool.and_false, if_true, Bool.false_eq_true, if_false]
      · exact Ev.now _
      · exact Ev.now _
      · exact Ev.now _
      · by_cases h1 : preL who.data.toList = preL own.data.toList
        · by_cases h2 : postL who.data.toList = []
          · simp only [h1, h2, if_true, decide_true, Bool.true_and, Bool.true_or]; exact Ev.now _
          · simp only [h1, h2, if_true, if_false, decide_true, decide_false, Bool.true_and, Bool.false_or]
            rw [show (postL who.data.toList == postL own.data.toList) = decide (postL who.data.toList = postL own.data.toList) from by rw [Bool.eq_iff_iff]; simp]
            exact Ev.now _
        · simp only [h1, if_false, decide_false, Bool.false_and]; exact Ev.now _
    · simp only [if_true, ofL_list]
      by_cases h1 : who.data.toList.dropLast = []
      · simp only [h1, if_true, decide_true, Bool.true_or]; exact Ev.now _
      · simp only [h1, if_false, decide_false, Bool.false_or]
        cases okL own.data.toList
        · simp only [Bool.false_eq_true, if_false, Bool.false_and]; exact Ev.now _
        · simp only [if_true, Bool.true_and, HasPrefix_eq, Option.bind_some, ofL_data]; exact Ev.now _

theorem Act_ev (t : ByteArray) : ∃ n : Int, Ev (fun k => pact_Act.f k t) n ∧ (decide (n > 0) = actL t.data.toList) := by
  unfold pact_Act.f pact_types.f
  simp only [Option.bind_some]
  have h := Index4 ⟨#[115, 117, 98, 115, 99, 114, 105, 98, 101]⟩ ⟨#[115, 117, 98, 115, 99, 114, 105, 98, 101, 100]⟩ ⟨#[117, 110, 115, 117, 98, 115, 99, 114, 105, 98, 101]⟩ ⟨#[117, 110, 115, 117, 98, 115, 99, 114, 105, 98, 101, 100]⟩ t
  simp only [Lib.toList_data] at h
  refine ⟨_, Ev.bind (Ev.of (k := 5) (fun k => slices_Index_string_string.mono _ _ _) h) (Ev.now _), ?_⟩
  unfold actL
  generalize t.data.toList = l
  by_cases h1 : l = [115, 117, 98, 115, 99, 114, 105, 98, 101]
  · simp [h1, wrap64]
  · by_cases h2 : l = [115, 117, 98, 115, 99, 114, 105, 98, 101, 100]
    · simp [h2, wrap64]
    · by_cases h3 : l = [117, 110, 115, 117, 98, 115, 99, 114, 105, 98, 101]
      · simp [h3, wrap64]
      · by_cases h4 : l = [117, 110, 115, 117, 98, 115, 99, 114, 105, 98, 101, 100]
        · simp [h4, wrap64]
        · simp [h1, h2, h3, h4, wrap64]

theorem kind_ev (a0_0 : Int) (a0_1 a0_2 a0_3 a0_4 a0_5 a0_6 a0_7 : ByteArray) (a0_8 a0_9 : Int) (a0_10 : Bool) (l0_11 : List S142) :
    Ev (fun k => rules_kind.f k a0_0 a0_1 a0_2 a0_3 a0_4 a0_5 a0_6 a0_7 a0_8 a0_9 a0_10 l0_11) (ofL (kindL a0_0 a0_1.data.toList)) := by
  obtain ⟨n, hn, hact⟩ := Act_ev a0_1
  unfold rules_kind.f
  rw [Lib.toList_data]
  have j1 : ∀ b : Bool, Ev (fun k => rules_kind.j1 k b a0_0 a0_1 a0_2 a0_3 a0_4 a0_5 a0_6 a0_7 a0_8 a0_9 a0_10 l0_11)
      (if b = true then ofL [115] else if 2 ≤ a0_0 ∧ a0_0 ≤ 5 then ofL [113] else ofL []) := by
    intro b
    refine Ev.step (fun k => rules_kind.j1.eq_2 ..) ?_
    cases b
    · simp only [Bool.false_eq_true, if_false]
      unfold stanza_Counts.f
      by_cases h1 : a0_0 ≥ 1
      · by_cases h2 : a0_0 ≤ 5
        · by_cases h3 : a0_0 = 1
          · simp [h3]; exact Ev.now _
          · have h4 : 2 ≤ a0_0 ∧ a0_0 ≤ 5 := by omega
            simp [h1, h2, h3, h4]; exact Ev.now _
        · have h4 : ¬ (2 ≤ a0_0 ∧ a0_0 ≤ 5) := by omega
          rw [if_neg h4]; simp only [h1, h2, if_true, if_false, decide_false, Option.bind_some, Bool.false_eq_true]; exact Ev.now _
      · have h4 : ¬ (2 ≤ a0_0 ∧ a0_0 ≤ 5) := by omega
        rw [if_neg h4]; simp only [h1, if_false, Option.bind_some, Bool.false_eq_true]; exact Ev.now _
    · simp only [if_true]; exact Ev.now _
  have j0 : ∀ b : Bool, Ev (fun k => rules_kind.j0 k b a0_0 a0_1 a0_2 a0_3 a0_4 a0_5 a0_6 a0_7 a0_8 a0_9 a0_10 l0_11)
      (if b = true then ofL [112] else if a0_0 = 1 ∧ actL a0_1.data.toList = true then ofL [115] else if 2 ≤ a0_0 ∧ a0_0 ≤ 5 then ofL [113] else ofL []) := by
    intro b
    refine Ev.step (fun k => rules_kind.j0.eq_2 ..) ?_
    cases b
    · simp only [Bool.false_eq_true, if_false]
      by_cases h1 : a0_0 = 1
      · simp only [h1, if_true, true_and]
        refine Ev.bind hn ?_
        rw [hact]
        have := j1 (actL a0_1.data.toList)
        rw [h1] at this
        exact this
      · simp only [h1, if_false, false_and]
        have := j1 false
        simpa using this
    · simp only [if_true]; exact Ev.now _
  unfold kindL
  by_cases h1 : a0_0 = 1
  · simp only [h1, if_true]
    simp only [h1] at j0
    by_cases h2 : a0_1.data.toList = []
    · simp only [h2, if_true, true_or]
      have := j0 true
      simp only [if_true] at this
      exact this
    · simp only [h2, if_false, false_or]
      by_cases h3 : a0_1.data.toList = [117, 110, 97, 118, 97, 105, 108, 97, 98, 108, 101]
      · have := j0 (a0_1.data.toList == [117, 110, 97, 118, 97, 105, 108, 97, 98, 108, 101])
        rw [show (a0_1.data.toList == ([117, 110, 97, 118, 97, 105, 108, 97, 98, 108, 101] : List UInt8)) = true from by rw [h3]; rfl] at this ⊢
        simp only [if_true, h3] at this ⊢
        exact this
      · have := j0 (a0_1.data.toList == [117, 110, 97, 118, 97, 105, 108, 97, 98, 108, 101])
        rw [show (a0_1.data.toList == ([117, 110, 97, 118, 97, 105, 108, 97, 98, 108, 101] : List UInt8)) = false from beq_eq_false_iff_ne.mpr h3] at this ⊢
        simp only [h3, if_false, Bool.false_eq_true, true_and] at this ⊢
        cases ha : actL a0_1.data.toList <;> rw [ha] at this <;> simpa using this
  · simp only [h1, if_false]
    have := j0 false
    simp only [Bool.false_eq_true, if_false, h1, false_and] at this
    by_cases h4 : 2 ≤ a0_0 ∧ a0_0 ≤ 5
    · simp only [h4, and_self, if_true] at this ⊢; exact this
    · simp only [h4, if_false] at this ⊢; exact this
end Go.Proofs.YtajndnaeknfogaaDoor.Q
