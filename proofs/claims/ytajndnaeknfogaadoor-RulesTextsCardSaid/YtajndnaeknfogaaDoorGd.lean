/- The contract of rules.First: the first rule that is about the stanza's kind and fits; conditions: texts of at most 2^63 - 1 bytes, kinds that are ASCII. -/
import Derived.Test.YtajndnaeknfogaaDoorGx
import Derived.Test.YtajndnaeknfogaaDoorGc
import Derived.Test.YtajndnaeknfogaaDoorGq
namespace Go.Proofs.YtajndnaeknfogaaDoor.Q
open Go.RowKit Go.Proofs.YtajndnaeknfogaaDoorW.PrintWords Go.Proofs.YtajndnaeknfogaaDoorW.PrintLast Go.Proofs.YtajndnaeknfogaaDoorW.PrintMore
set_option linter.unusedVariables false
set_option linter.unusedSimpArgs false

def fineRules (l : List S37) : Bool := l.all (fun x => ascL x.f1.data.toList && decide (x.f2.size ≤ 9223372036854775807))
theorem fine_at {l : List S37} (h : fineRules l = true) {x : S37} (hx : x ∈ l) : ascB x.f1 = true ∧ x.f2.size ≤ 9223372036854775807 := by
  have := List.all_eq_true.mp h x hx
  simp only [Bool.and_eq_true, decide_eq_true_eq] at this
  exact this

/-- (rules.Rule).about in plain words, at ASCII texts. -/
theorem about_eq (b : Bool) (k w l : ByteArray) (hk : ascB k = true) (hl : ascB l = true) : rules_Rule_about.f b k w l = some (aboutL k.data.toList l.data.toList) := by
  unfold rules_Rule_about.f aboutL
  rw [Lib.toList_data]
  by_cases h : k.data.toList = []
  · simp [h]
  · simp [h, hk, hl]

theorem first1_cells (w w1 : World) (b0 : Bool) (kinds who own : ByteArray) (sub : Int) (p2 p3 : Nat) (h2 : w.cell? ⟨p2, 0, none⟩ = some (.string own)) (h3 : w.cell? ⟨p3, 0, none⟩ = some (.int .i64 sub)) (l2 : p2 < w.heap.size) (l3 : p3 < w.heap.size)
    (hb : Below (w.alloc (.cells #[.bool b0, .string kinds, .string who] 37)).heap.size (w.alloc (.cells #[.bool b0, .string kinds, .string who] 37)) w1) :
    w1.cell? ⟨w.heap.size, 0, none⟩ = some (.bool b0) ∧ w1.cell? ⟨w.heap.size, 1, none⟩ = some (.string kinds) ∧ w1.cell? ⟨w.heap.size, 2, none⟩ = some (.string who) ∧
      w1.cell? ⟨p2, 0, none⟩ = some (.string own) ∧ w1.cell? ⟨p3, 0, none⟩ = some (.int .i64 sub) :=
  ⟨(hb.cell (p := ⟨w.heap.size, 0, none⟩) (by simp)).trans (by simp [go_sem]), (hb.cell (p := ⟨w.heap.size, 1, none⟩) (by simp)).trans (by simp [go_sem]), (hb.cell (p := ⟨w.heap.size, 2, none⟩) (by simp)).trans (by simp [go_sem]),
    (hb.cell (p := ⟨p2, 0, none⟩) (by simp; omega)).trans (by rw [World.cell?_alloc_old _ _ _ (by simp; omega)]; exact h2), (hb.cell (p := ⟨p3, 0, none⟩) (by simp; omega)).trans (by rw [World.cell?_alloc_old _ _ _ (by simp; omega)]; exact h3)⟩

set_option maxHeartbeats 1000000 in
set_option maxRecDepth 100000 in
/-- The inner function of First, at one rule. -/
theorem first1_calls (b0 : Bool) (kinds who own c : ByteArray) (sub : Int) (p1 p2 p3 : Nat) (w : World) (hk : ascB kinds = true) (hc : ascB c = true) (hw : who.size ≤ 9223372036854775807) (ho : own.size ≤ 9223372036854775807)
    (h1 : w.cell? ⟨p1, 0, none⟩ = some (.string c)) (h2 : w.cell? ⟨p2, 0, none⟩ = some (.string own)) (h3 : w.cell? ⟨p3, 0, none⟩ = some (.int .i64 sub)) (l1 : p1 < w.heap.size) (l2 : p2 < w.heap.size) (l3 : p3 < w.heap.size) :
    Calls Tryd.prog 28 (#[.agg #[.bool b0, .string kinds, .string who]] ++ #[.pointer (some ⟨p1, 0, none⟩), .pointer (some ⟨p2, 0, none⟩), .pointer (some ⟨p3, 0, none⟩)]) w fun e w' =>
      e = .returned (.bool (aboutL kinds.data.toList c.data.toList && fitsL who.data.toList own.data.toList sub)) ∧ Below w.heap.size w w' := by
  obtain ⟨k, hf⟩ := (fits_ev b0 kinds who own sub hw ho).rounds
  have cA := fun W => rules_Rule_about.calls b0 kinds who c _ W (about_eq b0 kinds who c hk hc)
  have cF := fun W => rules_Rule_fits.calls k b0 kinds who own sub _ W hf
  have hu37 := Tryd.underlying37
  have HA := Aside0.mk cA
  have HF := Aside0.mk cF
  clear cA cF hf hk hc hw ho
  cases ha : aboutL kinds.data.toList c.data.toList
  · rw [ha] at HA
    clear ha
    go_enter Tryd.func28, Tryd.ntmps28
    go_wp2_with (first | (go_at_call 29; refine (HA.out _).mono ?_; rintro e w' ⟨rfl, hb⟩))
    go_ret
    exact ⟨rfl, ((Below.refl _ _).alloc (Nat.le_refl _) _).trans (hb.mono (by simp))⟩
  · rw [ha] at HA
    clear ha
    generalize fitsL who.data.toList own.data.toList sub = B at *
    go_enter Tryd.func28, Tryd.ntmps28
    go_wp2_with (first | (go_at_call 29; refine (HA.out _).mono ?_; rintro e w1 ⟨rfl, hb⟩; obtain ⟨c0, c1, c2, c3, c4⟩ := first1_cells w w1 b0 kinds who own sub p2 p3 h2 h3 l2 l3 hb) | (go_at_call 30; refine (HF.out _).mono ?_; rintro e w2 ⟨rfl, hb2⟩))
    go_ret
    exact ⟨rfl, (((Below.refl _ _).alloc (Nat.le_refl _) _).trans (hb.mono (by simp))).trans (hb2.mono (by have := hb.size; simp at this; omega))⟩

theorem kindL_asc (K : Int) (t : List UInt8) : ascL (kindL K t) = true := by
  unfold kindL
  by_cases h1 : K = 1
  · rw [if_pos h1]
    by_cases h2 : t = [] ∨ t = [117, 110, 97, 118, 97, 105, 108, 97, 98, 108, 101]
    · rw [if_pos h2]; rfl
    · rw [if_neg h2]; cases actL t <;> rfl
  · rw [if_neg h1]
    by_cases h2 : 2 ≤ K ∧ K ≤ 5
    · rw [if_pos h2]; rfl
    · rw [if_neg h2]; rfl

/-- slices.IndexFunc over the rules with First's inner function. -/
theorem first_index (A0 : Option Addr) (c0 : Nat) (l0 : List S37) (own c : ByteArray) (sub : Int) (p1 p2 p3 : Nat) (w : World) (hr0 : Kd.C k37 w A0 l0.length l0) (hc0 : l0.length ≤ c0)
    (hf : fineRules l0 = true) (hc : ascB c = true) (ho : own.size ≤ 9223372036854775807)
    (h1 : w.cell? ⟨p1, 0, none⟩ = some (.string c)) (h2 : w.cell? ⟨p2, 0, none⟩ = some (.string own)) (h3 : w.cell? ⟨p3, 0, none⟩ = some (.int .i64 sub)) (l1 : p1 < w.heap.size) (l2 : p2 < w.heap.size) (l3 : p3 < w.heap.size) :
    Calls Tryd.prog 27 #[.slice A0 l0.length c0, .func (.func 28) #[] #[.pointer (some ⟨p1, 0, none⟩), .pointer (some ⟨p2, 0, none⟩), .pointer (some ⟨p3, 0, none⟩)]] w fun e w' =>
      e = .returned (.int .i64 (idxFrom (ruleP c.data.toList own.data.toList sub) l0 0)) ∧ Below w.heap.size w w' :=
  indexRules 28 _ (enters_of Tryd.func28 (by kernel_rfl) rfl) (ruleP c.data.toList own.data.toList sub) A0 c0 l0 w hr0 hc0 fun W x hx hb =>
    first1_calls x.f0 x.f1 x.f2 own c sub p1 p2 p3 W (fine_at hf hx).1 hc (fine_at hf hx).2 ho ((hb.cell (p := ⟨p1, 0, none⟩) l1).trans h1) ((hb.cell (p := ⟨p2, 0, none⟩) l2).trans h2) ((hb.cell (p := ⟨p3, 0, none⟩) l3).trans h3)
      (Nat.lt_of_lt_of_le l1 hb.size) (Nat.lt_of_lt_of_le l2 hb.size) (Nat.lt_of_lt_of_le l3 hb.size)

theorem first_after {w w4 : World} {S : Array Value} {own : ByteArray} {sub : Int} (C : ByteArray)
    (hb : Below (((w.alloc (.cells S 26)).alloc (.cells #[.string own] 9)).alloc (.cells #[.int .i64 sub] 3)).heap.size (((w.alloc (.cells S 26)).alloc (.cells #[.string own] 9)).alloc (.cells #[.int .i64 sub] 3)) w4) :
    Below w.heap.size w (w4.alloc (.cells #[.string C] 9)) ∧ (w4.alloc (.cells #[.string C] 9)).cell? ⟨w4.heap.size, 0, none⟩ = some (.string C) ∧ (w4.alloc (.cells #[.string C] 9)).cell? ⟨w.heap.size + 1, 0, none⟩ = some (.string own) ∧
      (w4.alloc (.cells #[.string C] 9)).cell? ⟨w.heap.size + 1 + 1, 0, none⟩ = some (.int .i64 sub) ∧ w4.heap.size < (w4.alloc (.cells #[.string C] 9)).heap.size ∧ w.heap.size + 1 < (w4.alloc (.cells #[.string C] 9)).heap.size ∧ w.heap.size + 1 + 1 < (w4.alloc (.cells #[.string C] 9)).heap.size := by
  have hs := hb.size
  simp only [World.size_alloc] at hs
  refine ⟨((show Below w.heap.size w _ from by repeat (first | (with_reducible exact Below.refl _ _) | apply below_alloc)).trans (hb.mono (by simp only [World.size_alloc]; omega))).alloc (by omega) _, by simp [go_sem], ?_, ?_, by simp only [World.size_alloc]; omega, by simp only [World.size_alloc]; omega, by simp only [World.size_alloc]; omega⟩
  · rw [World.cell?_alloc_old _ _ _ (by show w.heap.size + 1 ≠ _; omega)]
    exact (hb.cell (p := ⟨w.heap.size + 1, 0, none⟩) (by simp only [World.size_alloc]; omega)).trans (by simp [go_sem])
  · rw [World.cell?_alloc_old _ _ _ (by show w.heap.size + 1 + 1 ≠ _; omega)]
    exact (hb.cell (p := ⟨w.heap.size + 1 + 1, 0, none⟩) (by simp only [World.size_alloc]; omega)).trans (by simp [go_sem])

def rules_First.f (l0 : List S37) (a1_0 : Int) (a1_1 _ _ _ _ _ _ : ByteArray) (_ _ : Int) (_ : Bool) (_ : List S142) (a2 : ByteArray) (a3 : Int) : Option Int :=
  if fineRules l0 = true ∧ a2.size ≤ 9223372036854775807 then some (firstL l0 (kindL a1_0 a1_1.data.toList) a2.data.toList a3) else none

set_option maxHeartbeats 2000000 in
set_option maxRecDepth 100000 in
theorem rules_First.calls (A0 : Option Addr) (c0 : Nat) (l0 : List S37) (a1_0 : Int) (a1_1 a1_2 a1_3 a1_4 a1_5 a1_6 a1_7 : ByteArray) (a1_8 a1_9 : Int) (a1_10 : Bool) (A1_11 : Option Addr) (c1_11 : Nat) (l1_11 : List S142) (a2 : ByteArray) (a3 : Int) (r : Int) (w : World)
    (hr0 : Kd.C k37 w A0 l0.length l0) (hc0 : l0.length ≤ c0) (hr1_11 : Kd.C k142 w A1_11 l1_11.length l1_11) (hc1_11 : l1_11.length ≤ c1_11) (h : rules_First.f l0 a1_0 a1_1 a1_2 a1_3 a1_4 a1_5 a1_6 a1_7 a1_8 a1_9 a1_10 l1_11 a2 a3 = some r) :
    Calls Tryd.prog 11 #[.slice A0 l0.length c0, .agg #[.int .i64 a1_0, .string a1_1, .string a1_2, .string a1_3, .string a1_4, .string a1_5, .string a1_6, .string a1_7, .int .u32 a1_8, .int .i64 a1_9, .bool a1_10, .slice A1_11 l1_11.length c1_11], .string a2, .int .i64 a3] w fun e w' =>
      e = .returned (.int .i64 r) ∧ Below w.heap.size w w' := by
  unfold rules_First.f at h
  by_cases hcond : fineRules l0 = true ∧ a2.size ≤ 9223372036854775807
  · rw [if_pos hcond] at h
    obtain rfl := Option.some.inj h
    clear h
    obtain ⟨k, hk⟩ := (kind_ev a1_0 a1_1 a1_2 a1_3 a1_4 a1_5 a1_6 a1_7 a1_8 a1_9 a1_10 l1_11).rounds
    have hasc : ascB (ofL (kindL a1_0 a1_1.data.toList)) = true := by unfold ascB; rw [ofL_data]; exact kindL_asc _ _
    have cK := fun (W : World) (hB : Below w.heap.size w W) => rules_kind.calls k a1_0 a1_1 a1_2 a1_3 a1_4 a1_5 a1_6 a1_7 a1_8 a1_9 a1_10 A1_11 c1_11 l1_11 _ W (Kd.C_below hr1_11 hB) hc1_11 hk
    have cX := fun (W : World) (p1 p2 p3 : Nat) (hB : Below w.heap.size w W) => first_index A0 c0 l0 a2 (ofL (kindL a1_0 a1_1.data.toList)) a3 p1 p2 p3 W (Kd.C_below hr0 hB) hc0 hcond.1 hasc hcond.2
    simp only [ofL_data] at cX
    have hcl := ofL_list (kindL a1_0 a1_1.data.toList)
    unfold firstL
    generalize kindL a1_0 a1_1.data.toList = K at *
    generalize idxFrom (ruleP K a2.data.toList a3) l0 0 = F at *
    generalize ofL K = C at *
    have HK := Aside0.mk cK
    have HX := Aside0.mk cX
    have hu26 := Tryd.underlying26
    clear cK cX hk hasc hr0 hc0 hr1_11 hc1_11 hcond
    by_cases hK : K = []
    · rw [if_pos hK]
      have hc1 : C.toList = [] := by rw [hcl, hK]
      clear hcl hK
      go_enter Tryd.func11, Tryd.ntmps11
      go_wp2_with (go_at_call 26; refine (HK.out _ (by repeat (first | (with_reducible exact Below.refl _ _) | apply below_alloc))).mono ?_; rintro e w4 ⟨rfl, hb⟩)
      go_ret
      exact ⟨rfl, (show Below w.heap.size w _ from by repeat (first | (with_reducible exact Below.refl _ _) | apply below_alloc)).trans (hb.mono (by simp; omega)) |>.alloc (by have := hb.size; simp at this; omega) _⟩
    · rw [if_neg hK]
      have hc1 : ¬ C.toList = [] := by rw [hcl]; exact hK
      have hc2 : C.toList.isEmpty = false := by cases hl : C.toList with
        | nil => exact absurd hl hc1
        | cons => rfl
      clear hcl hK
      go_enter Tryd.func11, Tryd.ntmps11
      go_wp2_with (first | (go_at_call 26; refine (HK.out _ (by repeat (first | (with_reducible exact Below.refl _ _) | apply below_alloc))).mono ?_; rintro e w4 ⟨rfl, hb⟩; have HA := Aside0.mk (first_after C hb)) | (go_at_call 27; refine (HX.out _ _ _ _ HA.out.1 HA.out.2.1 HA.out.2.2.1 HA.out.2.2.2.1 HA.out.2.2.2.2.1 HA.out.2.2.2.2.2.1 HA.out.2.2.2.2.2.2).mono ?_; rintro e w5 ⟨rfl, hb5⟩))
      go_ret
      exact ⟨rfl, HA.out.1.trans (hb5.mono HA.out.1.size)⟩
  · rw [if_neg hcond] at h; cases h
end Go.Proofs.YtajndnaeknfogaaDoor.Q
