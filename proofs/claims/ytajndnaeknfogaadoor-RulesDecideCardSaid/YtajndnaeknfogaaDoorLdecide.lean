/- RulesDecide returns true, for every list of rules, every stanza and every address; no condition. -/
import Derived.Test.YtajndnaeknfogaaDoorGn
import Derived.Test.YtajndnaeknfogaaDoorQf3
namespace Go.Proofs.YtajndnaeknfogaaDoor.Q
open Go.RowKit Go.Proofs.YtajndnaeknfogaaDoorW.PrintWords Go.Proofs.YtajndnaeknfogaaDoorW.PrintLast Go.Proofs.YtajndnaeknfogaaDoorW.PrintMore
set_option linter.unusedVariables false
set_option linter.unusedSimpArgs false

theorem rd_toP {l : List S35} {i : Int} (h0 : 0 ≤ i) (h1 : i < l.length) : (rd_T37 (l.map toP) i).f0 = (rd_T35 l i).f0 := by
  obtain ⟨n, rfl⟩ := Int.eq_ofNat_of_zero_le h0
  have hn : n < l.length := by omega
  rw [rd_T35_at hn, rd_T37_at (by simpa using hn)]
  simp [toP]

theorem decide_from (y : List S35) (own : ByteArray) (a1_0 : Int) (a1_1 a1_2 a1_3 a1_4 a1_5 a1_6 a1_7 : ByteArray) (a1_8 a1_9 : Int) (a1_10 : Bool) (l1_11 : List S142) (hr : rightW y = true) (ho : own.size ≤ 9223372036854775807) :
    ∀ (n : Nat) (j : Int), j + n = 5 → -1 ≤ j → Ev (fun k => tidewaterlaw24_RulesDecide.l0 k y own j a1_0 a1_1 a1_2 a1_3 a1_4 a1_5 a1_6 a1_7 a1_8 a1_9 a1_10 l1_11) true := by
  obtain ⟨hfine, hlen, _⟩ := right_rules hr
  have hfit := right_fit hr
  intro n
  induction n with
  | zero =>
    intro j hj _
    refine Ev.step (fun k => tidewaterlaw24_RulesDecide.l0.eq_2 ..) ?_
    exact Ev.no (by omega) (Ev.now _)
  | succ n ih =>
    intro j hj hj0
    refine Ev.step (fun k => tidewaterlaw24_RulesDecide.l0.eq_2 ..) ?_
    refine Ev.yes (by omega) ?_
    have hw : wrap64 (j + 1) = j + 1 := wrap_in (by omega) (by omega)
    have next := ih (j + 1) (by omega) (by omega)
    have hF : ∀ k : Nat, rules_First.f (y.map toP) a1_0 a1_1 a1_2 a1_3 a1_4 a1_5 a1_6 a1_7 a1_8 a1_9 a1_10 l1_11 own j = some (firstL (y.map toP) (kindL a1_0 a1_1.data.toList) own.data.toList j) := fun k => by
      unfold rules_First.f; rw [if_pos ⟨hfine, ho⟩]
    have hM := May_f (y.map toP) a1_0 a1_1 a1_2 a1_3 a1_4 a1_5 a1_6 a1_7 a1_8 a1_9 a1_10 l1_11 own j hfine ho
    have hrange := firstL_range (y.map toP) (kindL a1_0 a1_1.data.toList) own.data.toList j
    rw [hw]
    refine Ev.bind (FirstR_ev y a1_0 a1_1 a1_2 a1_3 a1_4 a1_5 a1_6 a1_7 a1_8 a1_9 a1_10 l1_11 own j (by omega) hfit ho) ?_
    refine Ev.bind (back_ev y (by omega)) ?_
    refine Ev.bind (Ev.congr hF (Ev.now _)) ?_
    refine Ev.yes rfl ?_
    refine Ev.bind (back_ev y (by omega)) ?_
    refine Ev.bind (Ev.congr (fun _ => hM) (Ev.now _)) ?_
    generalize firstL (y.map toP) (kindL a1_0 a1_1.data.toList) own.data.toList j = t at *
    by_cases hneg : t < 0
    · refine Ev.yes hneg (Ev.no ?_ next)
      rw [if_pos hneg]; decide
    · have h0 : 0 ≤ t := by omega
      have h1 : t < y.length := by
        rcases hrange with h | ⟨_, h⟩
        · omega
        · simpa using h
      refine Ev.no hneg (Ev.yes h0 (Ev.yes h1 (Ev.no ?_ next)))
      rw [if_neg hneg, rd_toP h0 h1]
      simp

theorem mn_take (l : List S35) : 0 ≤ mn (l.length : Int) 40 ∧ mn (l.length : Int) 40 ≤ l.length ∧ mn (l.length : Int) 40 ≤ 40 := by
  unfold mn
  split <;> omega

theorem decide_ev (l0 : List S35) (a1_0 : Int) (a1_1 a1_2 a1_3 a1_4 a1_5 a1_6 a1_7 : ByteArray) (a1_8 a1_9 : Int) (a1_10 : Bool) (l1_11 : List S142) (own : ByteArray) (hz : FitR l0) (ho : own.size ≤ 9223372036854775807) :
    Ev (fun k => tidewaterlaw24_RulesDecide.f k l0 a1_0 a1_1 a1_2 a1_3 a1_4 a1_5 a1_6 a1_7 a1_8 a1_9 a1_10 l1_11 own) true := by
  unfold tidewaterlaw24_RulesDecide.f tidewaterlaw24_lives.f
  obtain ⟨h0, h1, h2⟩ := mn_take l0
  refine Ev.bind (a := true) (Ev.now _) ?_
  refine Ev.yes rfl (Ev.yes h0 (Ev.yes h1 ?_))
  have hy : FitR (l0.take (mn (l0.length : Int) 40).toNat) := fun x hx => hz x (List.mem_of_mem_take hx)
  generalize l0.take (mn (l0.length : Int) 40).toNat = y at *
  refine Ev.bind (a := y) (Ev.now _) ?_
  refine Ev.bind (a := rightW y) (Ev.congr (fun _ => right_f y hy) (Ev.now _)) ?_
  by_cases hr : rightW y = true
  · refine Ev.yes hr ?_
    exact decide_from y own a1_0 a1_1 a1_2 a1_3 a1_4 a1_5 a1_6 a1_7 a1_8 a1_9 a1_10 l1_11 hr ho 6 (-1) (by omega) (by omega)
  · exact Ev.no hr (Ev.now _)
end Go.Proofs.YtajndnaeknfogaaDoor.Q
