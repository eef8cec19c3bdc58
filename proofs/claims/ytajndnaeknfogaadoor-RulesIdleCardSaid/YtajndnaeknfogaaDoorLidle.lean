/- RulesIdle returns true, for every list of rules, every stanza and every address; no condition. -/
import Derived.Test.YtajndnaeknfogaaDoorGn
import Derived.Test.YtajndnaeknfogaaDoorQf6
namespace Go.Proofs.YtajndnaeknfogaaDoor.Q
open Go.RowKit Go.Proofs.YtajndnaeknfogaaDoorW.PrintWords Go.Proofs.YtajndnaeknfogaaDoorW.PrintLast Go.Proofs.YtajndnaeknfogaaDoorW.PrintMore
set_option linter.unusedVariables false
set_option linter.unusedSimpArgs false

theorem cover_rule {r a : S37} {c : UInt8} {own : List UInt8} {sub : Int} (hc : c = 112 ∨ c = 115 ∨ c = 113) (h : coverL r a = true) (hr : ruleP [c] own sub r = true) : ruleP [c] own sub a = true := by
  unfold coverL at h
  unfold ruleP at hr ⊢
  simp only [Bool.and_eq_true, decide_eq_true_eq] at h hr ⊢
  obtain ⟨h1, h2⟩ := h
  obtain ⟨h3, h4⟩ := hr
  refine ⟨?_, by rw [h1]; exact h4⟩
  unfold aboutL at h2 h3 ⊢
  simp only [Bool.or_eq_true, decide_eq_true_eq, List.all_eq_true, List.any_eq_true, List.mem_cons, List.not_mem_nil, or_false, forall_eq] at h2 h3 ⊢
  rcases h2 with h2 | h2
  · exact .inl h2
  · right
    unfold ownKinds at h2
    by_cases he : r.f1.data.toList = []
    · rw [if_pos he] at h2
      exact h2 c (by rcases hc with rfl | rfl | rfl <;> simp)
    · rw [if_neg he] at h2
      rcases h3 with h3 | ⟨b, hb, hbc⟩
      · exact absurd h3 he
      · have : b = c := UInt8.toNat_inj.mp hbc
        subst this
        exact h2 b hb

def leftTo (P : List S37) (n : Nat) : List S37 := ((List.range n).filter (fun i => !idleAt P i)).map (fun i => P.getD i z37)
theorem left_next (P : List S37) (n : Nat) : leftTo P (n + 1) = leftTo P n ++ if idleAt P n then [] else [P.getD n z37] := by
  unfold leftTo
  rw [List.range_succ, List.filter_append, List.map_append]
  congr 1
  cases h : idleAt P n <;> simp [h]
theorem taken_next {P : List S37} {n : Nat} (h : n < P.length) : P.take (n + 1) = P.take n ++ [P.getD n z37] := by
  rw [List.take_succ_eq_append_getElem h, List.getD_eq_getElem?_getD, List.getElem?_eq_getElem h]; rfl
theorem left_mem (P : List S37) : ∀ n, n ≤ P.length → ∀ a ∈ leftTo P n, a ∈ P.take n
  | 0, _, a, h => by simp [leftTo] at h
  | n + 1, hn, a, h => by
    rw [left_next] at h
    rw [taken_next (by omega)]
    rcases List.mem_append.1 h with h | h
    · exact List.mem_append.2 (.inl (left_mem P n (by omega) a h))
    · refine List.mem_append.2 (.inr ?_)
      cases hi : idleAt P n <;> simp [hi] at h
      simp [h]
theorem left_find {c : UInt8} {own : List UInt8} {sub : Int} (hc : c = 112 ∨ c = 115 ∨ c = 113) (P : List S37) : ∀ n, n ≤ P.length → (P.take n).find? (ruleP [c] own sub) = (leftTo P n).find? (ruleP [c] own sub)
  | 0, _ => by simp [leftTo]
  | n + 1, hn => by
    have ih := left_find hc P n (by omega) (own := own) (sub := sub)
    rw [taken_next (by omega), left_next, List.find?_append, List.find?_append, ← ih]
    cases hi : idleAt P n
    · simp
    · simp only [if_true, List.find?_nil, Option.or_none]
      cases hf : (P.take n).find? (ruleP [c] own sub) with
      | some x => rfl
      | none =>
        rw [Option.none_or]
        refine List.find?_cons_of_neg fun hp => ?_
        unfold idleAt at hi
        obtain ⟨a, ha, hcov⟩ := List.any_eq_true.1 hi
        exact absurd (cover_rule hc hcov hp) (List.find?_eq_none.1 hf a ha)
theorem left_none (P : List S37) : ∀ n, n ≤ P.length → ∀ m, m < (leftTo P n).length → idleAt (leftTo P n) m = false
  | 0, _, m, h => by simp [leftTo] at h
  | n + 1, hn, m, h => by
    rw [left_next] at h ⊢
    cases hi : idleAt P n
    · rw [hi] at h
      simp only [Bool.false_eq_true, if_false, List.length_append, List.length_cons, List.length_nil] at h ⊢
      by_cases hm : m < (leftTo P n).length
      · have ih := left_none P n (by omega) m hm
        unfold idleAt at ih ⊢
        rw [List.take_append_of_le_length (by omega)]
        have : (leftTo P n ++ [P.getD n z37]).getD m z37 = (leftTo P n).getD m z37 := by
          simp only [List.getD_eq_getElem?_getD, List.getElem?_append_left hm]
        rw [this]
        exact ih
      · obtain rfl : m = (leftTo P n).length := by omega
        unfold idleAt at hi ⊢
        rw [List.take_append_of_le_length (Nat.le_refl _), List.take_length]
        have : (leftTo P n ++ [P.getD n z37]).getD (leftTo P n).length z37 = P.getD n z37 := by
          rw [List.getD_eq_getElem?_getD, List.getElem?_append_right (Nat.le_refl _)]; simp
        rw [this]
        refine List.any_eq_false.2 fun a ha => ?_
        exact List.any_eq_false.1 hi a (left_mem P n (by omega) a ha)
    · rw [hi] at h
      simp only [if_true, List.append_nil] at h ⊢
      exact left_none P n (by omega) m h
theorem left_idles (P : List S37) : idlesTo (leftTo P P.length) (leftTo P P.length).length = [] := by
  unfold idlesTo
  rw [List.filter_eq_nil_iff.2 (fun i hi => by rw [left_none P P.length (Nat.le_refl _) i (List.mem_range.1 hi)]; simp)]
  rfl
theorem idx_first (p : S37 → Bool) : ∀ (l : List S37) (i : Int) (k : Nat), idxFrom p l i = i + k → 0 ≤ i → ∀ a ∈ l.take k, p a = false
  | [], i, k, h, hi => by simp
  | x :: l, i, 0, h, hi => by simp
  | x :: l, i, k + 1, h, hi => by
    by_cases hx : p x = true
    · have e1 : idxFrom p (x :: l) i = i := if_pos hx
      rw [e1] at h; omega
    · have e1 : idxFrom p (x :: l) i = idxFrom p l (i + 1) := if_neg hx
      rw [e1] at h
      have ih := idx_first p l (i + 1) k (by rw [h]; omega) (by omega)
      intro a ha
      rw [List.take_succ_cons] at ha
      rcases List.mem_cons.1 ha with rfl | ha
      · simpa using hx
      · exact ih a ha

theorem idles_mem (P : List S37) (n : Nat) (i : Nat) : (i : Int) ∈ idlesTo P n ↔ i < n ∧ idleAt P i = true := by
  unfold idlesTo
  simp only [List.mem_map, List.mem_filter, List.mem_range]
  constructor
  · rintro ⟨j, ⟨h1, h2⟩, h3⟩
    have : j = i := Int.ofNat.inj h3
    subst this
    exact ⟨h1, h2⟩
  · rintro ⟨h1, h2⟩
    exact ⟨i, ⟨h1, h2⟩, rfl⟩

/-- The flag behind the inner loop: whether i stands among the idle. -/
theorem flag_from (a1_0 : Int) (a1_1 a1_2 a1_3 a1_4 a1_5 a1_6 a1_7 : ByteArray) (a1_8 a1_9 : Int) (a1_10 : Bool) (l1_11 : List S142) (y : List S35) (own : ByteArray) (ids : List Int) (left : List S35) (i : Int) (hl : ids.length ≤ 9223372036854775806) {r : Bool}
    (next : ∀ b : Bool, b = ids.contains i → Ev (fun k => if b = true then tidewaterlaw24_RulesIdle.l0 k y own ids left (wrap64 (i + 1)) a1_0 a1_1 a1_2 a1_3 a1_4 a1_5 a1_6 a1_7 a1_8 a1_9 a1_10 l1_11 else (if 0 ≤ i then (if i < (y.length : Int) then (if left.length < 3518437208883 then tidewaterlaw24_RulesIdle.l0 k y own ids (left ++ [(⟨(rd_T35 y i).f0, (rd_T35 y i).f1, (rd_T35 y i).f2⟩ : S35)]) (wrap64 (i + 1)) a1_0 a1_1 a1_2 a1_3 a1_4 a1_5 a1_6 a1_7 a1_8 a1_9 a1_10 l1_11 else none) else none) else none)) r) :
    ∀ (n j : Nat) (b : Bool), j + n = ids.length → b = (ids.take j).contains i → Ev (fun k => tidewaterlaw24_RulesIdle.l1 k y own ids left i b j a1_0 a1_1 a1_2 a1_3 a1_4 a1_5 a1_6 a1_7 a1_8 a1_9 a1_10 l1_11) r := by
  intro n
  induction n with
  | zero =>
    intro j b hj hb
    refine Ev.step (fun k => tidewaterlaw24_RulesIdle.l1.eq_2 ..) ?_
    refine Ev.no (by omega) ?_
    rw [List.take_of_length_le (by omega)] at hb
    exact next b hb
  | succ n ih =>
    intro j b hj hb
    have hlt : j < ids.length := by omega
    have hnx : (ids.take (j + 1)).contains i = ((ids.take j).contains i || (ids[j] == i)) := by
      rw [List.take_succ_eq_append_getElem hlt, Bool.eq_iff_iff, Bool.or_eq_true, List.contains_iff_mem, List.contains_iff_mem, beq_iff_eq, List.mem_append, List.mem_singleton]
      exact or_congr Iff.rfl ⟨fun h => h.symm, fun h => h.symm⟩
    refine Ev.step (fun k => tidewaterlaw24_RulesIdle.l1.eq_2 ..) ?_
    refine Ev.yes (by omega) ?_
    rw [wrap_next hlt (by omega)]
    have ra : rd ids (j : Int) = ids[j] := by unfold rd; rw [List.getD_eq_getElem?_getD, List.getElem?_eq_getElem (by simpa using hlt)]; rfl
    cases b
    · refine Ev.no (by decide) (Ev.yes (by omega) ?_)
      rw [ra]
      exact ih (j + 1) _ (by omega) (by rw [hnx, ← hb, Bool.false_or])
    · refine Ev.yes rfl ?_
      exact ih (j + 1) _ (by omega) (by rw [hnx, ← hb, Bool.true_or])

def leftS (y : List S35) (n : Nat) : List S35 := ((List.range n).filter (fun i => !idleAt (y.map toP) i)).map (fun (i : Nat) => rd_T35 y (i : Int))
theorem leftS_next (y : List S35) (n : Nat) : leftS y (n + 1) = leftS y n ++ if idleAt (y.map toP) n then [] else [rd_T35 y (n : Int)] := by
  unfold leftS
  rw [List.range_succ, List.filter_append, List.map_append]
  congr 1
  cases h : idleAt (y.map toP) n <;> simp [h]
theorem leftS_len (y : List S35) (n : Nat) : (leftS y n).length ≤ n := by
  unfold leftS
  rw [List.length_map]
  have := List.length_filter_le (fun i => !idleAt (y.map toP) i) (List.range n)
  simpa using this
theorem leftS_P (y : List S35) : ∀ n, n ≤ y.length → (leftS y n).map toP = leftTo (y.map toP) n
  | 0, _ => rfl
  | n + 1, hn => by
    rw [leftS_next, left_next, List.map_append, leftS_P y n (by omega)]
    congr 1
    cases idleAt (y.map toP) n
    · have hlt : n < y.length := by omega
      simp only [Bool.false_eq_true, if_false, List.map_cons, List.map_nil]
      rw [rd_T35_at hlt, List.getD_eq_getElem?_getD, List.getElem?_eq_getElem (by simpa using hlt)]
      simp
    · simp

section
variable (a1_0 : Int) (a1_1 a1_2 a1_3 a1_4 a1_5 a1_6 a1_7 : ByteArray) (a1_8 a1_9 : Int) (a1_10 : Bool) (l1_11 : List S142) (y : List S35) (own : ByteArray)

/-- The loop that leaves the idle rules out. -/
theorem leave_from {r : Bool} (hy : y.length ≤ 40) (hids : (idlesTo (y.map toP) y.length).length ≤ 40)
    (next : Ev (fun k => tidewaterlaw24_RulesIdle.l2 k y own (idlesTo (y.map toP) y.length) (leftS y y.length) 0 a1_0 a1_1 a1_2 a1_3 a1_4 a1_5 a1_6 a1_7 a1_8 a1_9 a1_10 l1_11) r) :
    ∀ (n i : Nat), i + n = y.length → Ev (fun k => tidewaterlaw24_RulesIdle.l0 k y own (idlesTo (y.map toP) y.length) (leftS y i) i a1_0 a1_1 a1_2 a1_3 a1_4 a1_5 a1_6 a1_7 a1_8 a1_9 a1_10 l1_11) r := by
  intro n
  induction n with
  | zero =>
    intro i hi
    refine Ev.step (fun k => tidewaterlaw24_RulesIdle.l0.eq_2 ..) ?_
    refine Ev.no (by omega) ?_
    obtain rfl : i = y.length := by omega
    exact next
  | succ n ih =>
    intro i hi
    have hlt : i < y.length := by omega
    refine Ev.step (fun k => tidewaterlaw24_RulesIdle.l0.eq_2 ..) ?_
    refine Ev.yes (by omega) ?_
    have ih1 := ih (i + 1) (by omega)
    have hs := leftS_next y i
    have hc : (idlesTo (y.map toP) y.length).contains (i : Int) = idleAt (y.map toP) i := by
      rw [Bool.eq_iff_iff, List.contains_iff_mem, idles_mem]
      exact ⟨fun h => h.2, fun h => ⟨hlt, h⟩⟩
    have hll := leftS_len y i
    have F := flag_from a1_0 a1_1 a1_2 a1_3 a1_4 a1_5 a1_6 a1_7 a1_8 a1_9 a1_10 l1_11 y own (idlesTo (y.map toP) y.length) (leftS y i) (i : Int) (by omega) (r := r) (fun b hb => by
      rw [hc] at hb
      subst hb
      rw [wrap_next hlt (by omega)]
      cases hx : idleAt (y.map toP) i
      · rw [hx] at hs
        refine Ev.no (by decide) (Ev.yes (by omega) (Ev.yes (by omega) (Ev.yes (by omega) ?_)))
        simp only [Bool.false_eq_true, if_false] at hs
        rw [hs] at ih1
        exact ih1
      · rw [hx] at hs
        refine Ev.yes rfl ?_
        simp only [if_true, List.append_nil] at hs
        rw [hs] at ih1
        exact ih1)
    exact F (idlesTo (y.map toP) y.length).length 0 false (by omega) rfl
end
theorem idx_find (p : S37 → Bool) : ∀ (l : List S37) (i : Int), (idxFrom p l i = -1 ∧ l.find? p = none) ∨ ∃ (k : Nat) (x : S37), l[k]? = some x ∧ l.find? p = some x ∧ idxFrom p l i = i + k
  | [], i => .inl ⟨rfl, rfl⟩
  | x :: l, i => by
    by_cases h : p x = true
    · exact .inr ⟨0, x, rfl, by rw [List.find?_cons_of_pos h], by
        have e1 : idxFrom p (x :: l) i = i := if_pos h
        rw [e1]; simp⟩
    · have e1 : idxFrom p (x :: l) i = idxFrom p l (i + 1) := if_neg h
      rcases idx_find p l (i + 1) with ⟨h1, h2⟩ | ⟨k, y, h1, h2, h3⟩
      · exact .inl ⟨by rw [e1, h1], by rw [List.find?_cons_of_neg h, h2]⟩
      · exact .inr ⟨k + 1, y, by simpa using h1, by rw [List.find?_cons_of_neg h, h2], by rw [e1, h3]; omega⟩
/-- May in plain words. -/
def mayL (l : List S37) (c own : List UInt8) (sub : Int) : Bool := if c = [] then true else match l.find? (ruleP c own sub) with
  | none => true
  | some x => x.f0
theorem may_find (l : List S37) (c own : List UInt8) (sub : Int) : (if firstL l c own sub < 0 then true else (rd_T37 l (firstL l c own sub)).f0) = mayL l c own sub := by
  unfold firstL mayL
  by_cases hc : c = []
  · simp only [if_pos hc]; rfl
  · simp only [if_neg hc]
    rcases idx_find (ruleP c own sub) l 0 with ⟨h1, h2⟩ | ⟨k, x, h1, h2, h3⟩
    · rw [h1, h2]; rfl
    · have hk : k < l.length := (List.getElem?_eq_some_iff.1 h1).1
      have hx : l[k] = x := (List.getElem?_eq_some_iff.1 h1).2
      rw [h3, h2]
      have e : (0 : Int) + (k : Int) = (k : Int) := by omega
      simp only [e]
      rw [if_neg (by omega), rd_T37_at hk, hx]

theorem first_busy {P : List S37} {a0 : Int} {a1 own : List UInt8} {sub : Int} {i : Nat} (h : firstL P (kindL a0 a1) own sub = (i : Int)) : idleAt P i = false := by
  have some_ : ∀ c : UInt8, (c = 112 ∨ c = 115 ∨ c = 113) → kindL a0 a1 = [c] → idleAt P i = false := by
    intro c hc hk
    rw [hk] at h
    unfold firstL at h
    rw [if_neg (by simp)] at h
    rcases idx_find (ruleP [c] own sub) P 0 with ⟨h1, _⟩ | ⟨k, x, h1, h2, h3⟩
    · rw [h1] at h; omega
    · have hki : k = i := by rw [h3] at h; omega
      subst hki
      have hx : P.getD k z37 = x := by rw [List.getD_eq_getElem?_getD, h1]; rfl
      have hp := List.find?_some h2
      have hn := idx_first (ruleP [c] own sub) P 0 k h3 (by omega)
      unfold idleAt
      rw [hx, List.any_eq_false]
      intro a ha hcov
      have := hn a ha
      rw [cover_rule hc hcov hp] at this
      cases this
  rcases kindL_cases a0 a1 with hk | hk | hk | hk
  · rw [hk] at h; unfold firstL at h; rw [if_pos rfl] at h; omega
  · exact some_ 112 (.inl rfl) hk
  · exact some_ 115 (.inr (.inl rfl)) hk
  · exact some_ 113 (.inr (.inr rfl)) hk
theorem may_left (P : List S37) (a0 : Int) (a1 own : List UInt8) (sub : Int) : mayL (leftTo P P.length) (kindL a0 a1) own sub = mayL P (kindL a0 a1) own sub := by
  have some_ : ∀ c : UInt8, (c = 112 ∨ c = 115 ∨ c = 113) → mayL (leftTo P P.length) [c] own sub = mayL P [c] own sub := by
    intro c hc
    have h := left_find hc P P.length (Nat.le_refl _) (own := own) (sub := sub)
    rw [List.take_length] at h
    unfold mayL
    rw [h]
  rcases kindL_cases a0 a1 with hk | hk | hk | hk <;> rw [hk]
  · rfl
  · exact some_ 112 (.inl rfl)
  · exact some_ 115 (.inr (.inl rfl))
  · exact some_ 113 (.inr (.inr rfl))
theorem fine_left {P : List S37} (h : fineRules P = true) : fineRules (leftTo P P.length) = true := by
  unfold fineRules at h ⊢
  rw [List.all_eq_true] at h ⊢
  intro a ha
  have := left_mem P P.length (Nat.le_refl _) a ha
  rw [List.take_length] at this
  exact h a this
section
variable (a1_0 : Int) (a1_1 a1_2 a1_3 a1_4 a1_5 a1_6 a1_7 : ByteArray) (a1_8 a1_9 : Int) (a1_10 : Bool) (l1_11 : List S142) (y : List S35) (own : ByteArray)

/-- None of the idle is the first that fits. -/
theorem busy_from (sub t : Int) (ids : List Int) (left : List S35) {r : Bool} (hl : ids.length ≤ 9223372036854775806) (hb : ∀ a ∈ ids, a ≠ t)
    (next : Ev (fun k => ((tidewaterlaw24_back.f k y).bind fun t352 => ((rules_May.f t352 a1_0 a1_1 a1_2 a1_3 a1_4 a1_5 a1_6 a1_7 a1_8 a1_9 a1_10 l1_11 own sub).bind fun t355 => ((tidewaterlaw24_back.f k left).bind fun t356 => ((rules_May.f t356 a1_0 a1_1 a1_2 a1_3 a1_4 a1_5 a1_6 a1_7 a1_8 a1_9 a1_10 l1_11 own sub).bind fun t359 => (if (t355 != t359) = true then (some false) else (tidewaterlaw24_RulesIdle.l2 k y own ids left (wrap64 (sub + 1)) a1_0 a1_1 a1_2 a1_3 a1_4 a1_5 a1_6 a1_7 a1_8 a1_9 a1_10 l1_11))))))) r) :
    ∀ (n j : Nat), j + n = ids.length → Ev (fun k => tidewaterlaw24_RulesIdle.l3 k y own ids left sub t j a1_0 a1_1 a1_2 a1_3 a1_4 a1_5 a1_6 a1_7 a1_8 a1_9 a1_10 l1_11) r := by
  intro n
  induction n with
  | zero =>
    intro j hj
    refine Ev.step (fun k => tidewaterlaw24_RulesIdle.l3.eq_2 ..) ?_
    exact Ev.no (by omega) next
  | succ n ih =>
    intro j hj
    have hlt : j < ids.length := by omega
    refine Ev.step (fun k => tidewaterlaw24_RulesIdle.l3.eq_2 ..) ?_
    have ra : rd ids (j : Int) = ids[j] := by unfold rd; rw [List.getD_eq_getElem?_getD, List.getElem?_eq_getElem (by simpa using hlt)]; rfl
    refine Ev.yes (by omega) (Ev.yes (by omega) (Ev.no (by rw [ra]; exact hb _ (List.getElem_mem hlt)) ?_))
    rw [wrap_next hlt (by omega)]
    exact ih (j + 1) (by omega)

theorem subs_from (hr : rightW y = true) (ho : own.size ≤ 9223372036854775807) :
    ∀ (n : Nat) (j : Int), j + n = 4 → 0 ≤ j → Ev (fun k => tidewaterlaw24_RulesIdle.l2 k y own (idlesTo (y.map toP) y.length) (leftS y y.length) j a1_0 a1_1 a1_2 a1_3 a1_4 a1_5 a1_6 a1_7 a1_8 a1_9 a1_10 l1_11) true := by
  obtain ⟨hfine, hlen, _⟩ := right_rules hr
  have hPl : (y.map toP).length = y.length := by simp
  have hleft : (leftS y y.length).map toP = leftTo (y.map toP) (y.map toP).length := by rw [hPl]; exact leftS_P y y.length (Nat.le_refl _)
  have hll := leftS_len y y.length
  have hlf : fineRules (leftTo (y.map toP) (y.map toP).length) = true := fine_left hfine
  have hbl := back_ev (leftS y y.length) (by omega)
  rw [hleft] at hbl
  have hil := idles_len (y.map toP) y.length
  intro n
  induction n with
  | zero =>
    intro j hj _
    refine Ev.step (fun k => tidewaterlaw24_RulesIdle.l2.eq_2 ..) ?_
    refine Ev.no (by omega) ?_
    refine Ev.bind hbl ?_
    have hI : ∀ k : Nat, rules_Idle.f (leftTo (y.map toP) (y.map toP).length) = some [] := fun k => by
      have h1 : (leftTo (y.map toP) (y.map toP).length).length ≤ 64 := by rw [← hleft, List.length_map]; omega
      unfold rules_Idle.f
      rw [if_pos ⟨hlf, h1⟩, left_idles]
    refine Ev.bind (Ev.congr hI (Ev.now _)) ?_
    exact Ev.now _
  | succ n ih =>
    intro j hj hj0
    refine Ev.step (fun k => tidewaterlaw24_RulesIdle.l2.eq_2 ..) ?_
    refine Ev.yes (by omega) ?_
    have hw : wrap64 (j + 1) = j + 1 := wrap_in (by omega) (by omega)
    have next := ih (j + 1) (by omega) (by omega)
    have hF : ∀ k : Nat, rules_First.f (y.map toP) a1_0 a1_1 a1_2 a1_3 a1_4 a1_5 a1_6 a1_7 a1_8 a1_9 a1_10 l1_11 own j = some (firstL (y.map toP) (kindL a1_0 a1_1.data.toList) own.data.toList j) := fun k => by
      unfold rules_First.f; rw [if_pos ⟨hfine, ho⟩]
    refine Ev.bind (back_ev y (by omega)) (Ev.bind (Ev.congr hF (Ev.now _)) ?_)
    refine busy_from a1_0 a1_1 a1_2 a1_3 a1_4 a1_5 a1_6 a1_7 a1_8 a1_9 a1_10 l1_11 y own j _ _ _ (by omega) ?_ ?_ (idlesTo (y.map toP) y.length).length 0 (by omega)
    · intro a ha he
      subst he
      obtain ⟨i, hi⟩ : ∃ i : Nat, firstL (y.map toP) (kindL a1_0 a1_1.data.toList) own.data.toList j = (i : Int) := by
        unfold idlesTo at ha
        obtain ⟨i, _, h2⟩ := List.mem_map.1 ha
        exact ⟨i, h2.symm⟩
      rw [hi] at ha
      have h1 := ((idles_mem _ _ _).1 ha).2
      rw [first_busy hi] at h1
      cases h1
    · have hM := May_f (y.map toP) a1_0 a1_1 a1_2 a1_3 a1_4 a1_5 a1_6 a1_7 a1_8 a1_9 a1_10 l1_11 own j hfine ho
      rw [may_find] at hM
      have hM2 := May_f (leftTo (y.map toP) (y.map toP).length) a1_0 a1_1 a1_2 a1_3 a1_4 a1_5 a1_6 a1_7 a1_8 a1_9 a1_10 l1_11 own j hlf ho
      rw [may_find, may_left] at hM2
      refine Ev.bind (back_ev y (by omega)) (Ev.bind (Ev.congr (fun _ => hM) (Ev.now _)) (Ev.bind hbl (Ev.bind (Ev.congr (fun _ => hM2) (Ev.now _)) ?_)))
      refine Ev.no (by simp) ?_
      rw [hw]
      exact next
end

theorem mn_take (l : List S35) : 0 ≤ mn (l.length : Int) 40 ∧ mn (l.length : Int) 40 ≤ l.length ∧ mn (l.length : Int) 40 ≤ 40 := by
  unfold mn
  split <;> omega
theorem idle_ev (l0 : List S35) (a1_0 : Int) (a1_1 a1_2 a1_3 a1_4 a1_5 a1_6 a1_7 : ByteArray) (a1_8 a1_9 : Int) (a1_10 : Bool) (l1_11 : List S142) (own : ByteArray) (hz : FitR l0) (ho : own.size ≤ 9223372036854775807) :
    Ev (fun k => tidewaterlaw24_RulesIdle.f k l0 a1_0 a1_1 a1_2 a1_3 a1_4 a1_5 a1_6 a1_7 a1_8 a1_9 a1_10 l1_11 own) true := by
  unfold tidewaterlaw24_RulesIdle.f tidewaterlaw24_lives.f
  obtain ⟨h0, h1, h2⟩ := mn_take l0
  refine Ev.bind (a := true) (Ev.now _) ?_
  refine Ev.yes rfl (Ev.yes h0 (Ev.yes h1 ?_))
  have hy : FitR (l0.take (mn (l0.length : Int) 40).toNat) := fun x hx => hz x (List.mem_of_mem_take hx)
  generalize l0.take (mn (l0.length : Int) 40).toNat = y at *
  refine Ev.bind (a := y) (Ev.now _) ?_
  refine Ev.bind (a := rightW y) (Ev.congr (fun _ => right_f y hy) (Ev.now _)) ?_
  by_cases hr : rightW y = true
  · refine Ev.yes hr ?_
    obtain ⟨hfine, hlen, _⟩ := right_rules hr
    have hPl : (y.map toP).length = y.length := by simp
    have hI : ∀ k : Nat, rules_Idle.f (y.map toP) = some (idlesTo (y.map toP) y.length) := fun k => by
      unfold rules_Idle.f
      rw [if_pos ⟨hfine, by omega⟩, hPl]
    have hfk : fitK y = true := by
      unfold fitK; rw [List.all_eq_true]; intro x hx; exact decide_eq_true (hy x hx).1
    have hJ : ∀ k : Nat, tidewaterref24_Idle.f y = some (idlesTo (y.map toP) y.length) := fun k => by
      unfold tidewaterref24_Idle.f
      rw [if_pos ⟨hfk, by omega⟩]
    have hil := idles_len (y.map toP) y.length
    refine Ev.bind (back_ev y (by omega)) (Ev.bind (Ev.congr hI (Ev.now _)) (Ev.bind (Ev.congr hJ (Ev.now _)) (Ev.bind (a := true) (by have := SameInts_ev (idlesTo (y.map toP) y.length) (idlesTo (y.map toP) y.length) (by omega); simpa using this) (Ev.yes rfl ?_))))
    have L := leave_from a1_0 a1_1 a1_2 a1_3 a1_4 a1_5 a1_6 a1_7 a1_8 a1_9 a1_10 l1_11 y own (by omega) (by omega)
      (subs_from a1_0 a1_1 a1_2 a1_3 a1_4 a1_5 a1_6 a1_7 a1_8 a1_9 a1_10 l1_11 y own hr ho 4 0 (by omega) (by omega)) y.length 0 (by omega)
    have e0 : leftS y 0 = [] := rfl
    rw [e0] at L
    exact L
  · exact Ev.no hr (Ev.now _)
end Go.Proofs.YtajndnaeknfogaaDoor.Q
