/- RulesAhead returns true, for every list of rules, every stanza and every address; no condition. -/
import Derived.Test.YtajndnaeknfogaaDoorGn
import Derived.Test.YtajndnaeknfogaaDoorQf4
namespace Go.Proofs.YtajndnaeknfogaaDoor.Q
open Go.RowKit Go.Proofs.YtajndnaeknfogaaDoorW.PrintWords Go.Proofs.YtajndnaeknfogaaDoorW.PrintLast Go.Proofs.YtajndnaeknfogaaDoorW.PrintMore
set_option linter.unusedVariables false
set_option linter.unusedSimpArgs false

def allR : S37 := ⟨false, ⟨#[]⟩, ⟨#[42]⟩⟩
theorem allR_fits (c own : List UInt8) (sub : Int) : ruleP c own sub allR = true := by
  have h : stateIx [42] = -1 := by decide
  have h2 : starL [42] = true := by decide
  simp [ruleP, allR, aboutL, fitsL, h, h2]
theorem allR_fine (P : List S37) (h : fineRules P = true) : fineRules (allR :: P) = true ∧ fineRules (P ++ [allR]) = true := by
  have h1 : (ascL allR.f1.data.toList && decide (allR.f2.size ≤ 9223372036854775807)) = true := by decide
  unfold fineRules at h ⊢
  constructor
  · rw [List.all_cons, h1, h]; rfl
  · rw [List.all_append, h, List.all_cons, h1]; rfl
theorem idx_snoc {p : S37 → Bool} {x : S37} (hx : p x = true) : ∀ (l : List S37) (i : Int), 0 ≤ i → idxFrom p (l ++ [x]) i = if idxFrom p l i < 0 then i + l.length else idxFrom p l i
  | [], i, h => by simp [idxFrom, hx]
  | y :: l, i, h => by
    have ih := idx_snoc hx l (i + 1) (by omega)
    by_cases hy : p y = true
    · have e1 : idxFrom p (y :: l) i = i := if_pos hy
      have e2 : idxFrom p (y :: l ++ [x]) i = i := if_pos hy
      rw [e2, e1, if_neg (by omega)]
    · have e1 : idxFrom p (y :: l) i = idxFrom p l (i + 1) := if_neg hy
      have e2 : idxFrom p (y :: l ++ [x]) i = idxFrom p (l ++ [x]) (i + 1) := if_neg hy
      rw [e2, e1, ih]
      simp only [List.length_cons]
      split <;> omega
theorem first_one (c own : List UInt8) (sub : Int) : firstL [allR] c own sub = if c = [] then -1 else 0 := by
  unfold firstL idxFrom
  rw [if_pos (allR_fits c own sub)]
theorem first_ahead (P : List S37) (c own : List UInt8) (sub : Int) : firstL (allR :: P) c own sub = if c = [] then -1 else 0 := by
  unfold firstL idxFrom
  rw [if_pos (allR_fits c own sub)]
theorem first_behind (P : List S37) (c own : List UInt8) (sub : Int) (hc : c ≠ []) : firstL (P ++ [allR]) c own sub = if firstL P c own sub < 0 then (P.length : Int) else firstL P c own sub := by
  unfold firstL
  rw [if_neg hc, if_neg hc, idx_snoc (allR_fits c own sub) P 0 (by omega)]
  simp
theorem First_f (l : List S37) (a1_0 : Int) (a1_1 a1_2 a1_3 a1_4 a1_5 a1_6 a1_7 : ByteArray) (a1_8 a1_9 : Int) (a1_10 : Bool) (l1_11 : List S142) (own : ByteArray) (sub : Int) (hf : fineRules l = true) (ho : own.size ≤ 9223372036854775807) :
    rules_First.f l a1_0 a1_1 a1_2 a1_3 a1_4 a1_5 a1_6 a1_7 a1_8 a1_9 a1_10 l1_11 own sub = some (firstL l (kindL a1_0 a1_1.data.toList) own.data.toList sub) := by
  unfold rules_First.f; rw [if_pos ⟨hf, ho⟩]
theorem rd_all_0 (P : List S37) : (rd_T37 (allR :: P) 0).f0 = false := by
  have := rd_T37_at (l := allR :: P) (k := 0) (by simp)
  rw [show ((0 : Nat) : Int) = 0 from rfl] at this
  rw [this]; rfl
theorem rd_all_end (P : List S37) : (rd_T37 (P ++ [allR]) (P.length : Int)).f0 = false := by
  rw [rd_T37_at (by simp)]
  simp [allR]
theorem rd_in (P : List S37) {K : Int} (h0 : 0 ≤ K) (h1 : K < P.length) : (rd_T37 (P ++ [allR]) K).f0 = (rd_T37 P K).f0 := by
  obtain ⟨n, rfl⟩ := Int.eq_ofNat_of_zero_le h0
  have hn : n < P.length := by omega
  rw [rd_T37_at (by simp; omega), rd_T37_at hn, List.getElem_append_left hn]

theorem ahead_join (P : List S37) (own : ByteArray) (want : Int) (a1_0 : Int) (a1_1 a1_2 a1_3 a1_4 a1_5 a1_6 a1_7 : ByteArray) (a1_8 a1_9 : Int) (a1_10 : Bool) (l1_11 : List S142) (hf : fineRules P = true) (ho : own.size ≤ 9223372036854775807)
    (hc : kindL a1_0 a1_1.data.toList ≠ []) (hw : want = if firstL P (kindL a1_0 a1_1.data.toList) own.data.toList 2 < 0 then (P.length : Int) else firstL P (kindL a1_0 a1_1.data.toList) own.data.toList 2) :
    Ev (fun k => tidewaterlaw24_RulesAhead.j0 k own P (allR :: P) (P ++ [allR]) (firstL P (kindL a1_0 a1_1.data.toList) own.data.toList 2) want a1_0 a1_1 a1_2 a1_3 a1_4 a1_5 a1_6 a1_7 a1_8 a1_9 a1_10 l1_11) true := by
  obtain ⟨f1, f2⟩ := allR_fine P hf
  have F1 := First_f (allR :: P) a1_0 a1_1 a1_2 a1_3 a1_4 a1_5 a1_6 a1_7 a1_8 a1_9 a1_10 l1_11 own 2 f1 ho
  have F2 := First_f (P ++ [allR]) a1_0 a1_1 a1_2 a1_3 a1_4 a1_5 a1_6 a1_7 a1_8 a1_9 a1_10 l1_11 own 2 f2 ho
  have M1 := May_f (allR :: P) a1_0 a1_1 a1_2 a1_3 a1_4 a1_5 a1_6 a1_7 a1_8 a1_9 a1_10 l1_11 own 2 f1 ho
  have M2 := May_f (P ++ [allR]) a1_0 a1_1 a1_2 a1_3 a1_4 a1_5 a1_6 a1_7 a1_8 a1_9 a1_10 l1_11 own 2 f2 ho
  rw [first_ahead, if_neg hc] at F1 M1
  rw [first_behind _ _ _ _ hc, ← hw] at F2 M2
  rw [if_neg (by omega), rd_all_0] at M1
  have hrange := firstL_range P (kindL a1_0 a1_1.data.toList) own.data.toList 2
  generalize firstL P (kindL a1_0 a1_1.data.toList) own.data.toList 2 = K at *
  refine Ev.step (fun k => tidewaterlaw24_RulesAhead.j0.eq_2 ..) ?_
  refine Ev.bind (Ev.congr (fun _ => F1) (Ev.now _)) ?_
  refine Ev.yes rfl ?_
  refine Ev.bind (Ev.congr (fun _ => M1) (Ev.now _)) ?_
  refine Ev.no (by decide) ?_
  refine Ev.bind (Ev.congr (fun _ => F2) (Ev.now _)) ?_
  refine Ev.yes rfl ?_
  refine Ev.bind (Ev.congr (fun _ => M2) (Ev.now _)) ?_
  by_cases hK : K < 0
  · rw [if_pos hK] at hw
    subst hw
    refine Ev.no (by omega) ?_
    rw [if_neg (by omega), rd_all_end]
    exact Ev.now _
  · rw [if_neg hK] at hw
    subst hw
    have h0 : 0 ≤ want := by omega
    have h1 : want < P.length := by
      rcases hrange with h | ⟨_, h⟩
      · omega
      · exact h
    refine Ev.yes (by omega) (Ev.yes h0 (Ev.yes h1 ?_))
    rw [if_neg hK, rd_in P h0 h1, beq_self_eq_true]
    exact Ev.now _

theorem mn_31 (l : List S35) : 0 ≤ mn (l.length : Int) 31 ∧ mn (l.length : Int) 31 ≤ l.length ∧ mn (l.length : Int) 31 ≤ 31 := by
  unfold mn
  split <;> omega

theorem ahead_ev (l0 : List S35) (a1_0 : Int) (a1_1 a1_2 a1_3 a1_4 a1_5 a1_6 a1_7 : ByteArray) (a1_8 a1_9 : Int) (a1_10 : Bool) (l1_11 : List S142) (own : ByteArray) (hz : FitR l0) (ho : own.size ≤ 9223372036854775807) :
    Ev (fun k => tidewaterlaw24_RulesAhead.f k l0 a1_0 a1_1 a1_2 a1_3 a1_4 a1_5 a1_6 a1_7 a1_8 a1_9 a1_10 l1_11 own) true := by
  unfold tidewaterlaw24_RulesAhead.f tidewaterlaw24_lives.f
  obtain ⟨h0, h1, h2⟩ := mn_31 l0
  refine Ev.bind (a := true) (Ev.now _) ?_
  refine Ev.yes rfl (Ev.yes h0 (Ev.yes h1 ?_))
  have hy : FitR (l0.take (mn (l0.length : Int) 31).toNat) := fun x hx => hz x (List.mem_of_mem_take hx)
  generalize l0.take (mn (l0.length : Int) 31).toNat = y at *
  refine Ev.bind (a := y) (Ev.now _) ?_
  refine Ev.bind (a := rightW y) (Ev.congr (fun _ => right_f y hy) (Ev.now _)) ?_
  by_cases hr : rightW y = true
  · obtain ⟨hfine, hlen, _⟩ := right_rules hr
    refine Ev.yes hr ?_
    refine Ev.bind (back_ev y (by omega)) ?_
    have hP : (y.map toP).length ≤ 32 := by simpa using hlen
    generalize y.map toP = P at *
    obtain ⟨f1, f2⟩ := allR_fine P hfine
    have f0 : fineRules [allR] = true := (allR_fine [] rfl).1
    have F0 := First_f [allR] a1_0 a1_1 a1_2 a1_3 a1_4 a1_5 a1_6 a1_7 a1_8 a1_9 a1_10 l1_11 own 0 f0 ho
    have F := First_f P a1_0 a1_1 a1_2 a1_3 a1_4 a1_5 a1_6 a1_7 a1_8 a1_9 a1_10 l1_11 own 2 hfine ho
    have M1 := May_f (allR :: P) a1_0 a1_1 a1_2 a1_3 a1_4 a1_5 a1_6 a1_7 a1_8 a1_9 a1_10 l1_11 own 2 f1 ho
    rw [first_one] at F0
    rw [first_ahead] at M1
    refine Ev.bind (Ev.congr (fun _ => F0) (Ev.now _)) ?_
    refine Ev.bind (a := [allR]) (Ev.now _) ?_
    refine Ev.yes (by simp; omega) ?_
    refine Ev.bind (a := allR :: P) (Ev.now _) ?_
    refine Ev.yes (by simp; omega) ?_
    refine Ev.bind (a := P) (Ev.now _) ?_
    refine Ev.bind (a := [allR]) (Ev.now _) ?_
    refine Ev.yes (by simp; omega) ?_
    refine Ev.bind (a := P ++ [allR]) (Ev.now _) ?_
    refine Ev.bind (Ev.congr (fun _ => F) (Ev.now _)) ?_
    by_cases hc : kindL a1_0 a1_1.data.toList = []
    · have hK : firstL P (kindL a1_0 a1_1.data.toList) own.data.toList 2 = -1 := by unfold firstL; rw [if_pos hc]
      rw [if_pos hc, if_pos (by omega)] at M1
      rw [if_pos hc, hK]
      refine Ev.yes (by omega) (Ev.yes rfl ?_)
      exact Ev.bind (Ev.congr (fun _ => M1) (Ev.now _)) (Ev.now _)
    · rw [if_neg hc]
      refine Ev.no (by omega) ?_
      by_cases hK : firstL P (kindL a1_0 a1_1.data.toList) own.data.toList 2 < 0
      · refine Ev.yes hK ?_
        exact ahead_join P own _ a1_0 a1_1 a1_2 a1_3 a1_4 a1_5 a1_6 a1_7 a1_8 a1_9 a1_10 l1_11 hfine ho hc (by rw [if_pos hK])
      · refine Ev.no hK ?_
        exact ahead_join P own _ a1_0 a1_1 a1_2 a1_3 a1_4 a1_5 a1_6 a1_7 a1_8 a1_9 a1_10 l1_11 hfine ho hc (by rw [if_neg hK])
  · exact Ev.no hr (Ev.now _)
end Go.Proofs.YtajndnaeknfogaaDoor.Q
