/- What the reference's First and the laws' 'right' come to, in plain words; condition: texts of at most 2^63 - 1 bytes. -/
import Derived.Test.YtajndnaeknfogaaDoorGt
import Derived.Test.YtajndnaeknfogaaDoorGd
import Derived.Test.YtajndnaeknfogaaDoorQE
import Derived.Test.YtajndnaeknfogaaDoorGw
import Derived.Test.YtajndnaeknfogaaDoorGh
namespace Go.Proofs.YtajndnaeknfogaaDoor.Q
open Go.RowKit Go.Proofs.YtajndnaeknfogaaDoorW.PrintWords Go.Proofs.YtajndnaeknfogaaDoorW.PrintLast Go.Proofs.YtajndnaeknfogaaDoorW.PrintMore
set_option linter.unusedVariables false
set_option linter.unusedSimpArgs false

/-- All texts in the rules are short enough. -/
def FitR (l : List S35) : Prop := ∀ x ∈ l, x.f1.size ≤ 9223372036854775807 ∧ x.f2.size ≤ 9223372036854775807

theorem kindL_cases (K : Int) (t : List UInt8) : kindL K t = [] ∨ kindL K t = [112] ∨ kindL K t = [115] ∨ kindL K t = [113] := by
  unfold kindL
  by_cases h1 : K = 1
  · rw [if_pos h1]
    by_cases h2 : t = [] ∨ t = [117, 110, 97, 118, 97, 105, 108, 97, 98, 108, 101]
    · rw [if_pos h2]; simp
    · rw [if_neg h2]; cases actL t <;> simp
  · rw [if_neg h1]
    by_cases h2 : 2 ≤ K ∧ K ≤ 5
    · rw [if_pos h2]; simp
    · rw [if_neg h2]; simp

theorem First_from (l : List S35) (own : ByteArray) (sub : Int) (c : UInt8) (hc : c ≠ 0) (hl : l.length ≤ 9223372036854775806) (hz : FitR l) (ho : own.size ≤ 9223372036854775807) :
    ∀ (n i : Nat), i + n = l.length → Ev (fun k => tidewaterref24_First.l0 k l own sub c.toNat i) (idxFrom (ruleP [c] own.data.toList sub) ((l.map toP).drop i) i) := by
  intro n
  induction n with
  | zero =>
    intro i hi
    refine Ev.step (fun k => tidewaterref24_First.l0.eq_2 ..) ?_
    refine Ev.no (by omega) ?_
    rw [List.drop_of_length_le (by simp; omega)]
    refine Ev.step (fun k => tidewaterref24_First.j1.eq_2 ..) ?_
    refine Ev.no (by simp) ?_
    exact Ev.now _
  | succ n ih =>
    intro i hi
    have hlt : i < l.length := by omega
    refine Ev.step (fun k => tidewaterref24_First.l0.eq_2 ..) ?_
    refine Ev.yes (by omega) ?_
    refine Ev.step (fun k => tidewaterref24_First.j1.eq_2 ..) ?_
    have hb : ((c.toNat : Int) != 0) = true := by
      have : c.toNat ≠ 0 := fun e => hc (UInt8.toNat_inj.mp e)
      simp only [bne_iff_ne, ne_eq]; omega
    refine Ev.yes hb (Ev.yes (by omega) (Ev.yes (by omega) ?_))
    rw [rd_T35_at hlt, wrap_next hlt (by omega)]
    obtain ⟨h1, h2⟩ := hz _ (List.getElem_mem hlt)
    have hm : i < (l.map toP).length := by simpa using hlt
    rw [idxFrom_drop hm]
    have hg : (l.map toP)[i] = toP l[i] := by simp
    rw [hg]
    refine Ev.bind (aboutR_ev _ _ _ c h1) ?_
    by_cases ha : aboutL l[i].f1.data.toList [c] = true
    · refine Ev.yes ha ?_
      have hf : ∀ k : Nat, tidewaterref24_fits.f l[i].f0 l[i].f1 l[i].f2 own sub = some (fitsL l[i].f2.data.toList own.data.toList sub) := fun k => by
        unfold tidewaterref24_fits.f; rw [if_pos ⟨h2, ho⟩]
      refine Ev.bind (Ev.congr hf (Ev.now _)) ?_
      by_cases hb2 : fitsL l[i].f2.data.toList own.data.toList sub = true
      · refine Ev.yes hb2 ?_
        rw [if_pos (by simp [ruleP, toP, ha, hb2])]
        exact Ev.now _
      · refine Ev.no hb2 ?_
        rw [if_neg (by simp [ruleP, toP, ha, hb2])]
        exact ih (i + 1) (by omega)
    · refine Ev.no ha ?_
      rw [if_neg (by simp [ruleP, toP, ha])]
      exact ih (i + 1) (by omega)

theorem FirstR_ev (l : List S35) (a1_0 : Int) (a1_1 a1_2 a1_3 a1_4 a1_5 a1_6 a1_7 : ByteArray) (a1_8 a1_9 : Int) (a1_10 : Bool) (l1_11 : List S142) (own : ByteArray) (sub : Int) (hl : l.length ≤ 9223372036854775806) (hz : FitR l) (ho : own.size ≤ 9223372036854775807) :
    Ev (fun k => tidewaterref24_First.f k l a1_0 a1_1 a1_2 a1_3 a1_4 a1_5 a1_6 a1_7 a1_8 a1_9 a1_10 l1_11 own sub) (firstL (l.map toP) (kindL a1_0 a1_1.data.toList) own.data.toList sub) := by
  unfold tidewaterref24_First.f
  refine Ev.bind (kindR_ev a1_0 a1_1 a1_2 a1_3 a1_4 a1_5 a1_6 a1_7 a1_8 a1_9 a1_10 l1_11) ?_
  unfold firstL kindC
  have some_ : ∀ c : UInt8, c ≠ 0 → Ev (fun n => tidewaterref24_First.l0 n l own sub c.toNat 0) (if ([c] : List UInt8) = [] then -1 else idxFrom (ruleP [c] own.data.toList sub) (l.map toP) 0) := by
    intro c hc
    rw [if_neg (by simp)]
    have := First_from l own sub c hc hl hz ho l.length 0 (by omega)
    simpa using this
  rcases kindL_cases a1_0 a1_1.data.toList with h | h | h | h <;> rw [h]
  · rw [if_pos rfl]
    show Ev (fun n => tidewaterref24_First.l0 n l own sub 0 0) (-1)
    refine Ev.step (fun k => tidewaterref24_First.l0.eq_2 ..) ?_
    have j : Ev (fun k => tidewaterref24_First.j1 k l own sub 0 0 false) (-1) := by
      refine Ev.step (fun k => tidewaterref24_First.j1.eq_2 ..) ?_
      exact Ev.no (by simp) (Ev.now _)
    by_cases hp : (0 : Int) < l.length
    · exact Ev.yes hp j
    · exact Ev.no hp j
  · exact some_ 112 (by decide)
  · exact some_ 115 (by decide)
  · exact some_ 113 (by decide)

theorem idxFrom_range (p : S37 → Bool) : ∀ (l : List S37) (i : Int), idxFrom p l i = -1 ∨ (i ≤ idxFrom p l i ∧ idxFrom p l i < i + l.length)
  | [], i => .inl rfl
  | x :: l, i => by
    unfold idxFrom
    by_cases h : p x = true
    · rw [if_pos h]; exact .inr ⟨by omega, by simp; omega⟩
    · rw [if_neg h]
      rcases idxFrom_range p l (i + 1) with h1 | ⟨h1, h2⟩
      · exact .inl h1
      · refine .inr ⟨by omega, ?_⟩
        simp only [List.length_cons]; omega
theorem firstL_range (l : List S37) (c own : List UInt8) (sub : Int) : firstL l c own sub = -1 ∨ (0 ≤ firstL l c own sub ∧ firstL l c own sub < l.length) := by
  unfold firstL
  split
  · exact .inl rfl
  · rcases idxFrom_range (ruleP c own sub) l 0 with h | ⟨h1, h2⟩
    · exact .inl h
    · exact .inr ⟨h1, by omega⟩
theorem kindsL_asc {l : List UInt8} (h : kindsL l = true) : ascL l = true := by
  unfold kindsL at h
  have := of_decide_eq_true h
  simp only [List.mem_cons, List.not_mem_nil, or_false] at this
  rcases this with h | h | h | h | h | h | h | h <;> rw [h] <;> decide
theorem right_rules {l : List S35} (h : rightW l = true) : fineRules (l.map toP) = true ∧ l.length ≤ 32 ∧ ∀ x ∈ l, x.f1.size ≤ 3 ∧ x.f2.size ≤ 33 := by
  unfold rightW at h
  simp only [Bool.and_eq_true, decide_eq_true_eq, List.all_eq_true, okRule] at h
  obtain ⟨h1, h2⟩ := h
  have h3 : ∀ x ∈ l, x.f1.size ≤ 3 ∧ x.f2.size ≤ 33 := fun x hx => by
    obtain ⟨a, b⟩ := h2 x hx
    exact ⟨by have := kindsL_len a; rwa [size_list] at this, by have := whoL_len b; rwa [size_list] at this⟩
  refine ⟨?_, h1, h3⟩
  unfold fineRules
  simp only [List.all_eq_true, List.mem_map, Bool.and_eq_true, decide_eq_true_eq]
  rintro y ⟨x, hx, rfl⟩
  have a := (h2 x hx).1
  have b := (h3 x hx).2
  exact ⟨kindsL_asc a, by simp [toP]; omega⟩
theorem right_fit {l : List S35} (h : rightW l = true) : FitR l := fun x hx => by have := (right_rules h).2.2 x hx; omega
theorem right_f (l : List S35) (hf : FitR l) : tidewaterlaw24_right.f l = some (rightW l) := by
  unfold tidewaterlaw24_right.f tidewaterref24_Write.f
  have h : fineW l = true := by
    unfold fineW; simp only [List.all_eq_true, decide_eq_true_eq]; exact fun x hx => (hf x hx).2
  rw [if_pos h]
  cases hr : rightW l <;> simp
theorem May_f (l : List S37) (a1_0 : Int) (a1_1 a1_2 a1_3 a1_4 a1_5 a1_6 a1_7 : ByteArray) (a1_8 a1_9 : Int) (a1_10 : Bool) (l1_11 : List S142) (own : ByteArray) (sub : Int) (hf : fineRules l = true) (ho : own.size ≤ 9223372036854775807) :
    rules_May.f l a1_0 a1_1 a1_2 a1_3 a1_4 a1_5 a1_6 a1_7 a1_8 a1_9 a1_10 l1_11 own sub =
      some (if firstL l (kindL a1_0 a1_1.data.toList) own.data.toList sub < 0 then true else (rd_T37 l (firstL l (kindL a1_0 a1_1.data.toList) own.data.toList sub)).f0) := by
  unfold rules_May.f rules_First.f
  rw [if_pos ⟨hf, ho⟩]
  simp only [Option.bind_some]
  rcases firstL_range l (kindL a1_0 a1_1.data.toList) own.data.toList sub with h | ⟨h1, h2⟩
  · rw [h]; rfl
  · have hn : ¬ firstL l (kindL a1_0 a1_1.data.toList) own.data.toList sub < 0 := by omega
    simp only [if_neg hn, if_pos h1, if_pos h2]
end Go.Proofs.YtajndnaeknfogaaDoor.Q
