/- The walk of RulesApart: it says true; no condition. -/
import Derived.Test.YtajndnaeknfogaaDoorGn
import Derived.Test.YtajndnaeknfogaaDoorGv
import Derived.Test.YtajndnaeknfogaaDoorQE
import Derived.Laws.Bits64
namespace Go.Proofs.YtajndnaeknfogaaDoor.Q
open Go.RowKit Go.Proofs.YtajndnaeknfogaaDoorW.PrintWords Go.Proofs.YtajndnaeknfogaaDoorW.PrintLast Go.Proofs.YtajndnaeknfogaaDoorW.PrintMore
attribute [local go_sem] max2_int min2_int max_two min_two max_three min_three max_four min_four
set_option linter.unusedVariables false
set_option linter.unusedSimpArgs false

def ItemAt (W : World) (b : Nat) (a0 : Int) (a1 a2 a3 a4 a5 a6 a7 : ByteArray) (a8 a9 : Int) (a10 : Bool) (A1 : Option Addr) (c1 : Nat) (l1 : List S142) : Prop := W.cell? ⟨b, 0, none⟩ = some (.int .i64 a0) ∧ W.cell? ⟨b, 1, none⟩ = some (.string a1) ∧ W.cell? ⟨b, 2, none⟩ = some (.string a2) ∧ W.cell? ⟨b, 3, none⟩ = some (.string a3) ∧ W.cell? ⟨b, 4, none⟩ = some (.string a4) ∧ W.cell? ⟨b, 5, none⟩ = some (.string a5) ∧ W.cell? ⟨b, 6, none⟩ = some (.string a6) ∧ W.cell? ⟨b, 7, none⟩ = some (.string a7) ∧ W.cell? ⟨b, 8, none⟩ = some (.int .u32 a8) ∧ W.cell? ⟨b, 9, none⟩ = some (.int .i64 a9) ∧ W.cell? ⟨b, 10, none⟩ = some (.bool a10) ∧ W.cell? ⟨b, 11, none⟩ = some (.slice A1 l1.length c1)
theorem ItemAt.after {W W' : World} {b : Nat} {a0 : Int} {a1 a2 a3 a4 a5 a6 a7 : ByteArray} {a8 a9 : Int} {a10 : Bool} {A1 : Option Addr} {c1 : Nat} {l1 : List S142} (h : ItemAt W b a0 a1 a2 a3 a4 a5 a6 a7 a8 a9 a10 A1 c1 l1) (hl : b < W.heap.size) (hb : Below W.heap.size W W') : ItemAt W' b a0 a1 a2 a3 a4 a5 a6 a7 a8 a9 a10 A1 c1 l1 := by
  obtain ⟨h0, h1, h2, h3, h4, h5, h6, h7, h8, h9, h10, h11⟩ := h
  exact ⟨(hb.cell (p := ⟨b, 0, none⟩) hl).trans h0, (hb.cell (p := ⟨b, 1, none⟩) hl).trans h1, (hb.cell (p := ⟨b, 2, none⟩) hl).trans h2, (hb.cell (p := ⟨b, 3, none⟩) hl).trans h3, (hb.cell (p := ⟨b, 4, none⟩) hl).trans h4, (hb.cell (p := ⟨b, 5, none⟩) hl).trans h5, (hb.cell (p := ⟨b, 6, none⟩) hl).trans h6, (hb.cell (p := ⟨b, 7, none⟩) hl).trans h7, (hb.cell (p := ⟨b, 8, none⟩) hl).trans h8, (hb.cell (p := ⟨b, 9, none⟩) hl).trans h9, (hb.cell (p := ⟨b, 10, none⟩) hl).trans h10, (hb.cell (p := ⟨b, 11, none⟩) hl).trans h11⟩
theorem ItemAt.new (W : World) (a0 : Int) (a1 a2 a3 a4 a5 a6 a7 : ByteArray) (a8 a9 : Int) (a10 : Bool) (A1 : Option Addr) (c1 : Nat) (l1 : List S142) : ItemAt (W.alloc (.cells #[.int .i64 a0, .string a1, .string a2, .string a3, .string a4, .string a5, .string a6, .string a7, .int .u32 a8, .int .i64 a9, .bool a10, .slice A1 l1.length c1] 26)) W.heap.size a0 a1 a2 a3 a4 a5 a6 a7 a8 a9 a10 A1 c1 l1 := by
  unfold ItemAt
  simp [go_sem]

theorem cut_own {W : World} {l0 : List S35} {A0 : Option Addr} {c0 : Nat} (n : Nat) (hn : n ≤ l0.length) (hc0 : l0.length ≤ c0) :
    ∀ W : World, (Instr.slice 22 (.slice A0 l0.length c0) none (some (.int .i64 (n : Int))) none).run Tryd.prog W = .ok (.slice A0 n c0) W := by
  obtain ⟨i0, hi, _⟩ := info_parts info35
  intro W
  have := cut_to (P := Tryd.prog) 22 35 .i64 Tryd.underlying22 hi A0 l0.length c0 (n : Int) (by omega) (by omega) hc0 W
  simpa using this

def nbR : S37 := ⟨false, ⟨#[]⟩, ⟨#[110, 111, 98, 111, 100, 121, 101, 108, 115, 101]⟩⟩
def dvR : S37 := ⟨false, ⟨#[]⟩, ⟨#[98, 111, 98, 47, 110, 111, 100, 101, 118, 105, 99, 101]⟩⟩
theorem run_slice_op {P : Program} {a : Act} {o : Oper} {t : TypeId} {x : Operand} {l h m : Option Operand} {v r : Value} {vl vh vm : Option Value} {w : World} (ho : o.op = .slice t x l h m) (hx : (a.eval x, l.map a.eval, h.map a.eval, m.map a.eval) = (v, vl, vh, vm))
    (ht : P.underlying t = some (.slice (P.elem t))) (hr : ∀ W : World, (Instr.slice t v vl vh vm).run P W = .ok r W) : (execOp a.eval o).run P w = .ok (.value r) w := by
  simp only [Prod.mk.injEq] at hx
  obtain ⟨h1, h2, h3, h4⟩ := hx
  have h5 := (run_sliceAt_slice (P := P) (w := w) t v vl vh vm ht).trans (hr w)
  unfold execOp
  rw [ho]
  dsimp only
  rw [h1, h2, h3, h4]
  simp [h5, Result.andThen, go_sem]
theorem elem31 : Tryd.prog.underlying 31 = some (.slice (Tryd.prog.elem 31)) := by
  have : Tryd.prog.elem 31 = 37 := by simp [Program.elem, Tryd.underlying31]
  rw [this]; exact Tryd.underlying31
theorem take_row {W : World} {A : Option Addr} {n kn : Nat} {P : List S37} (h : Kd.C k37 W A P.length P) (hk : kn ≤ n) (hn : P.length = n) : ReadsRow (k37.K W) 3 W A kn (P.take kn) := by
  have := Kd.C_take (m := kn) h (by omega)
  rw [List.length_take, Nat.min_eq_left (by omega)] at this
  exact this
theorem drop_row {W : World} {A : Option Addr} {n kn c : Nat} {P : List S37} (h : Kd.C k37 W A P.length P) (hk : kn ≤ n) (hn : P.length = n) (hc : n ≤ c) : ReadsRow (k37.K W) 3 W (if c = kn then A else A.map (·.add (kn * 3))) (n - kn) (P.drop kn) := by
  have := Kd.C_drop (m := kn) h (by omega) (c := c) (by omega)
  rw [List.length_drop, hn] at this
  exact this
theorem cut_take {A : Option Addr} {n c : Nat} (kn : Nat) (hk : kn ≤ n) (hc : n ≤ c) : ∀ W : World, (Instr.slice 31 (.slice A n c) none (some (.int .i64 (kn : Int))) none).run Tryd.prog W = .ok (.slice A kn c) W := by
  obtain ⟨i0, hi, _⟩ := info_parts info37
  intro W
  have := cut_to (P := Tryd.prog) 31 37 .i64 Tryd.underlying31 hi A n c (kn : Int) (by omega) (by omega) hc W
  simpa using this
theorem cut_drop {A : Option Addr} {n c : Nat} (kn : Nat) (hk : kn ≤ n) : ∀ W : World, (Instr.slice 31 (.slice A n c) (some (.int .i64 (kn : Int))) none none).run Tryd.prog W = .ok (.slice (if c = kn then A else A.map (·.add (kn * 3))) (n - kn) (c - kn)) W := by
  obtain ⟨i0, hi, _, hs, _⟩ := info_parts info37
  intro W
  have := cut_from (P := Tryd.prog) 31 37 .i64 Tryd.underlying31 hi 3 hs A n c (kn : Int) (by omega) (by omega) W
  simpa using this
theorem kn_is (at0 : Int) (n : Nat) (hn : n ≤ 30) : ∃ kn : Nat, kn ≤ n ∧ wrap64 ((IntKind.u64.wrap at0).tmod ((n : Int) + 1)) = (kn : Int) := by
  have h0 : 0 ≤ IntKind.u64.wrap at0 := by rw [IntKind.wrap_u64]; omega
  have h1 : 0 ≤ (IntKind.u64.wrap at0).tmod ((n : Int) + 1) := Int.tmod_nonneg _ h0
  have h2 : (IntKind.u64.wrap at0).tmod ((n : Int) + 1) < (n : Int) + 1 := Int.tmod_lt_of_pos _ (by omega)
  refine ⟨((IntKind.u64.wrap at0).tmod ((n : Int) + 1)).toNat, by omega, ?_⟩
  rw [wrap_in (by omega) (by omega)]
  omega


theorem idx_find (p : S37 → Bool) : ∀ (l : List S37) (i : Int), (idxFrom p l i = -1 ∧ l.find? p = none) ∨ ∃ (k : Nat) (x : S37), l[k]? = some x ∧ l.find? p = some x ∧ idxFrom p l i = i + k
  | [], i => .inl ⟨rfl, rfl⟩
  | x :: l, i => by
    by_cases h : p x = true
    · exact .inr ⟨0, x, rfl, by rw [List.find?_cons_of_pos h], by
        have e1 : idxFrom p (x :: l) i = i := if_pos h
        rw [e1]; simp⟩
    · have e1 : idxFrom p (x :: l) i = idxFrom p l (i + 1) := if_neg h
      rcases idx_find p l (i + 1) with ⟨h1, h2⟩ | ⟨k, y, h1, h2, h3⟩
      · exact .inl ⟨by rw [e1, h1], by rw [List.find?_cons_of_neg h, h2]⟩
      · exact .inr ⟨k + 1, y, by simpa using h1, by rw [List.find?_cons_of_neg h, h2], by rw [e1, h3]; omega⟩
theorem apart_below2 {w W1 W2 : World} {o : Obj} (h1 : Below (w.alloc o).heap.size (w.alloc o) W1) (h2 : Below W1.heap.size W1 W2) : Below w.heap.size w W2 := by
  have a0 : Below w.heap.size w (w.alloc o) := (Below.refl _ w).alloc (Nat.le_refl _) o
  have s1 := h1.size
  simp only [World.size_alloc] at s1
  exact (a0.trans (h1.mono (by simp))).trans (h2.mono (by omega))
theorem apart_below {w W1 W2 W3 W4 W5 : World} {o : Obj} (h1 : Below (w.alloc o).heap.size (w.alloc o) W1) (h2 : Below W1.heap.size W1 W2) (h3 : Below W2.heap.size W2 W3) (h4 : Below W3.heap.size W3 W4) (h5 : Below W4.heap.size W4 W5) : Below w.heap.size w W5 := by
  have a2 := apart_below2 h1 h2
  have s2 := a2.size
  have s3 := h3.size
  have s4 := h4.size
  exact ((a2.trans (h3.mono (by omega))).trans (h4.mono (by omega))).trans (h5.mono (by omega))
/-- May in plain words. -/
def mayL (l : List S37) (c own : List UInt8) (sub : Int) : Bool := if c = [] then true else match l.find? (ruleP c own sub) with
  | none => true
  | some x => x.f0
theorem may_find (l : List S37) (c own : List UInt8) (sub : Int) : (if firstL l c own sub < 0 then true else (rd_T37 l (firstL l c own sub)).f0) = mayL l c own sub := by
  unfold firstL mayL
  by_cases hc : c = []
  · simp only [if_pos hc]; rfl
  · simp only [if_neg hc]
    rcases idx_find (ruleP c own sub) l 0 with ⟨h1, h2⟩ | ⟨k, x, h1, h2, h3⟩
    · rw [h1, h2]; rfl
    · have hk : k < l.length := (List.getElem?_eq_some_iff.1 h1).1
      have hx : l[k] = x := (List.getElem?_eq_some_iff.1 h1).2
      rw [h3, h2]
      have e : (0 : Int) + (k : Int) = (k : Int) := by omega
      simp only [e]
      rw [if_neg (by omega), rd_T37_at hk, hx]
theorem find_in {p : S37 → Bool} {x : S37} (hx : p x = false) (P : List S37) (n : Nat) : (P.take n ++ [x] ++ P.drop n).find? p = P.find? p := by
  rw [List.find?_append, List.find?_append, List.find?_cons_of_neg (by simp [hx]), List.find?_nil, Option.or_none, ← List.find?_append, List.take_append_drop]
theorem may_in {x : S37} {c own : List UInt8} {sub : Int} (hx : ruleP c own sub x = false) (P : List S37) (n : Nat) : mayL (P.take n ++ [x] ++ P.drop n) c own sub = mayL P c own sub := by
  unfold mayL
  rw [find_in hx]
theorem fine_in {x : S37} {P : List S37} (h : fineRules P = true) (hx : fineRules [x] = true) (n : Nat) : fineRules (P.take n ++ [x] ++ P.drop n) = true := by
  unfold fineRules at h hx ⊢
  rw [List.all_append, List.all_append, hx, Bool.and_true, ← List.all_append, List.take_append_drop]
  exact h
theorem nb_not (c : List UInt8) (sub : Int) : ruleP c [98, 111, 98, 47, 112, 97, 100] sub nbR = false := by
  have h : fitsL nbR.f2.data.toList [98, 111, 98, 47, 112, 97, 100] sub = false := by
    unfold fitsL
    rw [if_neg (by decide), if_neg (by decide)]
    decide
  unfold ruleP
  rw [h, Bool.and_false]
theorem dv_not (c : List UInt8) (sub : Int) : ruleP c [98, 111, 98, 47, 112, 97, 100] sub dvR = false := by
  have h : fitsL dvR.f2.data.toList [98, 111, 98, 47, 112, 97, 100] sub = false := by
    unfold fitsL
    rw [if_neg (by decide), if_neg (by decide)]
    decide
  unfold ruleP
  rw [h, Bool.and_false]
theorem May_L (l : List S37) (a1_0 : Int) (a1_1 a1_2 a1_3 a1_4 a1_5 a1_6 a1_7 : ByteArray) (a1_8 a1_9 : Int) (a1_10 : Bool) (l1_11 : List S142) (sub : Int) (hf : fineRules l = true) :
    rules_May.f l a1_0 a1_1 a1_2 a1_3 a1_4 a1_5 a1_6 a1_7 a1_8 a1_9 a1_10 l1_11 ⟨#[98, 111, 98, 47, 112, 97, 100]⟩ sub = some (mayL l (kindL a1_0 a1_1.data.toList) [98, 111, 98, 47, 112, 97, 100] sub) := by
  rw [May_f _ _ _ _ _ _ _ _ _ _ _ _ _ _ _ hf (by decide)]
  exact congrArg some (may_find l _ _ sub)

set_option maxHeartbeats 8000000 in
set_option maxRecDepth 100000 in
theorem apart_calls (A0 : Option Addr) (c0 : Nat) (l0 : List S35) (a0 : Int) (a1 a2 a3 a4 a5 a6 a7 : ByteArray) (a8 a9 : Int) (a10 : Bool) (A1 : Option Addr) (c1 : Nat) (l1 : List S142) (at0 : Int) (w : World) (hr0 : Kd.C k35 w A0 l0.length l0) (hc0 : l0.length ≤ c0) (hr1 : Kd.C k142 w A1 l1.length l1) (hc1 : l1.length ≤ c1) (hfit : FitR l0) :
    Calls Tryd.prog 5 #[.slice A0 l0.length c0, .agg #[.int .i64 a0, .string a1, .string a2, .string a3, .string a4, .string a5, .string a6, .string a7, .int .u32 a8, .int .i64 a9, .bool a10, .slice A1 l1.length c1], .int .i64 at0] w fun e w' => e = .returned (.bool true) ∧ Below w.heap.size w w' := by
  have hu26 := Tryd.underlying26
  obtain ⟨y, hy⟩ : ∃ y, y = l0.take (min l0.length 30) := ⟨_, rfl⟩
  have hylen : y.length = min l0.length 30 := by rw [hy, List.length_take]; omega
  have hfy : FitR y := fun x hx => hfit x (List.mem_of_mem_take (by rw [hy] at hx; exact hx))
  have hcy : Kd.C k35 w A0 y.length y := by rw [hy]; exact Kd.C_take hr0 (by omega)
  have hcut := cut_own (W := w) (l0 := l0) (A0 := A0) (c0 := c0) y.length (by omega) hc0
  have hmin : (if (30 : Int) < (l0.length : Int) then (30 : Int) else (l0.length : Int)) = (y.length : Int) := by rw [hylen]; split <;> omega
  have hmn : mn (l0.length : Int) 30 = (y.length : Int) := by rw [hylen]; unfold mn; split <;> omega
  have hyc : y.length ≤ c0 := by omega
  have hy30 : y.length ≤ 30 := by omega
  have HYL := Aside0.mk hylen
  clear hylen
  by_cases hr : rightW y = true
  · have hR := right_f y hfy
    rw [hr] at hR
    obtain ⟨hfine, _, _⟩ := right_rules hr
    obtain ⟨kb, hkb⟩ := (back_ev y (by omega)).rounds
    have hPl : (y.map toP).length = y.length := by simp
    generalize y.map toP = P at *
    have hp30 : P.length ≤ 30 := by omega
    obtain ⟨kn, hkn, hk⟩ := kn_is at0 P.length hp30
    have HKN := Aside0.mk hkn
    clear hPl
    have HR := Aside0.mk hR
    have HK := Aside0.mk hkb
    have HCY := Aside0.mk hcy
    have HC1 := Aside0.mk hr1
    have HF := Aside0.mk hfine
    have HFY := Aside0.mk hfy
    clear hR hkb hcy hr1 hfine hfy hr hfit hr0 hy
    go_enter Tryd.func5, Tryd.ntmps5
    go_wp2_with (first | (go_at_call 8; refine (tidewaterlaw24_lives.calls true _ rfl).mono ?_; rintro e W1 ⟨rfl, hb1⟩; have HB1 := Aside0.mk hb1; have IT1 := Aside0.mk ((ItemAt.new w a0 a1 a2 a3 a4 a5 a6 a7 a8 a9 a10 A1 c1 l1).after (by simp) hb1); clear hb1) | (go_at_call 9; refine (tidewaterlaw24_right.calls A0 c0 y true _ (Kd.C_below (Kd.C_below HCY.out ((Below.refl _ w).alloc (Nat.le_refl _) _)) HB1.out) hyc HR.out).mono ?_; rintro e W2 ⟨rfl, hb2⟩; have HB2 := Aside0.mk hb2; clear hb2) | (go_at_call 12; refine (tidewaterlaw24_back.calls kb A0 c0 y P _ (Kd.C_below (Kd.C_below (Kd.C_below HCY.out ((Below.refl _ w).alloc (Nat.le_refl _) _)) HB1.out) HB2.out) hyc HK.out).mono ?_; rintro e W3 ⟨v3, rfl, ho3, hb3⟩; have HB3 := Aside0.mk hb3; have HO3 := Aside0.mk ho3; obtain ⟨A3, c3, e3⟩ := Kd.R_slice ho3; subst e3; clear hb3 ho3))
    rw [hk]
    clear hk
    have hpc : P.length ≤ c3 := (Kd.R_reads' HO3.out).2.1
    have HPC := Aside0.mk hpc
    have CQa := Aside0.mk (Kd.R_reads' HO3.out).2.2
    have hcut3 := cut_take (A := A3) kn HKN.out hpc
    have hdrop3 := cut_drop (A := A3) (c := c3) kn HKN.out
    obtain ⟨AD, hAD⟩ : ∃ AD, (if c3 = kn then A3 else A3.map (·.add (kn * 3))) = AD := ⟨_, rfl⟩
    rw [hAD] at hdrop3
    have HAD := Aside0.mk hAD
    clear hAD
    refine start_ (n := 12) (S := fun _ => True) (ds := []) #[false, false, false, false, false, false, false, false, false, false, false, false] (by kernel_rfl) rfl rfl trivial (fun _ => ?_)
    have HDa := Aside0.mk (below_drew1 (Below.refl W3.heap.size W3))
    generalize W3.drew = V3 at HDa ⊢
    have CPa := Aside0.mk (Kd.C_below CQa.out HDa.out)
    refine pure_ (i := 0) (N := some 33) (v := ?_) (a' := ?_) #[true, false, false, false, false, false, false, false, false, false, false, false] rfl rfl (by kernel_rfl) (fun _ _ _ h => h) (Or.inl ⟨by rfl, ?_⟩) ?_ ?_
    rotate_left
    · intro w'
      go_simp
      with_reducible rfl
    rotate_left
    · simp only [Act.put, List.setIfInBounds_toArray, List.set_cons_zero, List.set_cons_succ, i64_w, i32_w]
      rfl
    refine pure_ (i := 1) (N := some 34) (v := ?_) (a' := ?_) #[true, true, false, false, false, false, false, false, false, false, false, false] rfl rfl (by kernel_rfl) (fun _ _ _ h => h) (Or.inl ⟨by rfl, ?_⟩) ?_ ?_
    rotate_left
    · intro w'
      go_simp
      with_reducible rfl
    rotate_left
    · simp only [Act.put, List.setIfInBounds_toArray, List.set_cons_zero, List.set_cons_succ, i64_w, i32_w]
      rfl
    refine pure_ (i := 2) (N := some 35) (v := .slice A3 kn c3) (a' := ?_) #[true, true, true, false, false, false, false, false, false, false, false, false] rfl rfl (by kernel_rfl) (fun _ _ _ h => h) (Or.inl ⟨by rfl, ?_⟩) ?_ ?_
    · intro w'
      exact run_slice_op rfl rfl elem31 hcut3
    rotate_left
    · simp only [Act.put, List.setIfInBounds_toArray, List.set_cons_zero, List.set_cons_succ, i64_w, i32_w]
      rfl
    refine pure_ (i := 4) (N := some 37) (v := ?_) (a' := ?_) #[true, true, true, false, true, false, false, false, false, false, false, false] rfl rfl (by kernel_rfl) (fun _ _ _ h => h) (Or.inl ⟨by rfl, ?_⟩) ?_ ?_
    rotate_left
    · intro w'
      go_simp
      with_reducible rfl
    rotate_left
    · simp only [Act.put, List.setIfInBounds_toArray, List.set_cons_zero, List.set_cons_succ, i64_w, i32_w]
      rfl
    refine pure_ (i := 7) (N := some 40) (v := ?_) (a' := ?_) #[true, true, true, false, true, false, false, true, false, false, false, false] rfl rfl (by kernel_rfl) (fun _ _ _ h => h) (Or.inl ⟨by rfl, ?_⟩) ?_ ?_
    rotate_left
    · intro w'
      go_simp
      with_reducible rfl
    rotate_left
    · simp only [Act.put, List.setIfInBounds_toArray, List.set_cons_zero, List.set_cons_succ, i64_w, i32_w]
      rfl
    refine pure_ (i := 8) (N := some 41) (v := ?_) (a' := ?_) #[true, true, true, false, true, false, false, true, true, false, false, false] rfl rfl (by kernel_rfl) (fun _ _ _ h => h) (Or.inl ⟨by rfl, ?_⟩) ?_ ?_
    rotate_left
    · intro w'
      go_simp
      with_reducible rfl
    rotate_left
    · simp only [Act.put, List.setIfInBounds_toArray, List.set_cons_zero, List.set_cons_succ, i64_w, i32_w]
      rfl
    refine pure_ (i := 9) (N := some 42) (v := .slice AD (P.length - kn) (c3 - kn)) (a' := ?_) #[true, true, true, false, true, false, false, true, true, true, false, false] rfl rfl (by kernel_rfl) (fun _ _ _ h => h) (Or.inl ⟨by rfl, ?_⟩) ?_ ?_
    · intro w'
      exact run_slice_op rfl rfl elem31 hdrop3
    rotate_left
    · simp only [Act.put, List.setIfInBounds_toArray, List.set_cons_zero, List.set_cons_succ, i64_w, i32_w]
      rfl
    refine join_ (σ := Value × Value) 3 #[true, true, true, true, true, true, false, true, true, true, false, false] (fun s_ => [(36, s_.1), (38, s_.2)]) (fun s_ w' => Below V3.heap.size V3 w' ∧ Kd.R k37 37 w' V3.heap.size (fun _ => True) s_.1 (P.take kn) ∧ ∃ A2 c2, s_.2 = .slice A2 1 c2 ∧ Kd.C k37 w' A2 1 [nbR]) ?_ ?_
    rotate_left
    · intro hCont
      refine two_ (i := 3) (j := 5) (Ni := some 36) (Nj := some 38) #[true, true, true, true, true, false, false, true, true, true, false, false] #[true, true, true, false, true, true, false, true, true, true, false, false] rfl rfl rfl rfl (by kernel_rfl) (by decide) (by decide) (fun K hK => ?_) (fun K hK => ?_)
      · skip
        refine Kd.R_append_rows_step k37 (w0 := V3) V3.heap.size rfl (.const (.slice none 0 0)) (.tmp 35) 31 37 (.agg #[.bool false, .string ⟨#[]⟩, .string ⟨#[]⟩]) 40 rfl Tryd.underlying31 info37 rfl (by decide) (by omega) (.slice none 0 0) ([] : List S37) (P.take kn) _ _ _ (fun _ => True) (fun _ => False) rfl rfl (Kd.R_nil _ _ _ _ _) (take_row CPa.out HKN.out rfl) (fun _ _ h => h) (fun _ h => h.elim) (fun _ _ => trivial) (Below.refl _ _) (Nat.le_refl _) (by simp only [List.length_append, List.length_cons, List.length_nil, List.length_take]; omega) ?_
        intro u1 w1 ho1 hb1 hg1 hat1
        refine hK.out _ _ trivial (fun _ => ?_)
        clear hK K
        refine norm_ (a' := ?_) ?_ ?_
        rotate_left
        · show Act.put _ (some 36) _ = _
          simp only [Act.put, List.setIfInBounds_toArray, List.set_cons_zero, List.set_cons_succ, i64_w, i32_w]
          rfl
        refine one_ (i := 5) (N := some 38) #[true, true, true, true, true, true, false, true, true, true, false, false] rfl rfl (by kernel_rfl) (by decide) (fun K hK => ?_)
        refine Kd.R_lit_step k37 _ 37 ?hg (N := 38) ?hd (xs := [nbR]) (inner := [.bool nbR.f0, .string nbR.f1, .string nbR.f2]) (ok := fun _ => True) (okp := fun _ => True) ?hr ?hp (fun _ hk => hk) trivial (Below.refl _ _) (Nat.le_refl _) (by simp) ?_
        case hd => rfl
        case hg => rfl
        case hr => first | (go_simp; done) | (go_simp; rfl)
        case hp => exact (Reps.c3 (show Kd.M k37 _ _ _ nbR [.bool nbR.f0, .string nbR.f1, .string nbR.f2] from (k37_mkM _ _ _ nbR)) (Reps.none _ _))
        intro u2 w2 ho2 hb2 hg2 hnew2
        obtain ⟨A2, c2, e2⟩ := Kd.R_slice ho2
        subst e2
        refine hK.out _ _ trivial (fun _ => ?_)
        clear hK K
        refine norm_ (a' := ?_) ?_ ?_
        rotate_left
        · show Act.put _ (some 38) _ = _
          simp only [Act.put, List.setIfInBounds_toArray, List.set_cons_zero, List.set_cons_succ, i64_w, i32_w]
          rfl
        exact norm_ (by first | (simp only [putAll, Act.put, List.setIfInBounds_toArray, List.set_cons_zero, List.set_cons_succ]; done) | (simp only [putAll, Act.put, List.setIfInBounds_toArray, List.set_cons_zero, List.set_cons_succ]; rfl) | rfl) (hCont (u1, .slice A2 1 c2) _ ⟨below_step hb1 hb2, Kd.R_below ho1 hb2, A2, c2, rfl, (Kd.R_reads' ho2).2.2⟩)
      · skip
        refine Kd.R_lit_step k37 _ 37 ?hg (N := 38) ?hd (xs := [nbR]) (inner := [.bool nbR.f0, .string nbR.f1, .string nbR.f2]) (ok := fun _ => True) (okp := fun _ => True) ?hr ?hp (fun _ hk => hk) trivial (Below.refl _ _) (Nat.le_refl _) (by simp) ?_
        case hd => rfl
        case hg => rfl
        case hr => first | (go_simp; done) | (go_simp; rfl)
        case hp => exact (Reps.c3 (show Kd.M k37 _ _ _ nbR [.bool nbR.f0, .string nbR.f1, .string nbR.f2] from (k37_mkM _ _ _ nbR)) (Reps.none _ _))
        intro u2 w2 ho2 hb2 hg2 hnew2
        obtain ⟨A2, c2, e2⟩ := Kd.R_slice ho2
        subst e2
        refine hK.out _ _ trivial (fun _ => ?_)
        clear hK K
        refine norm_ (a' := ?_) ?_ ?_
        rotate_left
        · show Act.put _ (some 38) _ = _
          simp only [Act.put, List.setIfInBounds_toArray, List.set_cons_zero, List.set_cons_succ, i64_w, i32_w]
          rfl
        refine one_ (i := 3) (N := some 36) #[true, true, true, true, true, true, false, true, true, true, false, false] rfl rfl (by kernel_rfl) (by decide) (fun K hK => ?_)
        refine Kd.R_append_rows_step k37 (w0 := w2) w2.heap.size rfl (.const (.slice none 0 0)) (.tmp 35) 31 37 (.agg #[.bool false, .string ⟨#[]⟩, .string ⟨#[]⟩]) 40 rfl Tryd.underlying31 info37 rfl (by decide) (by omega) (.slice none 0 0) ([] : List S37) (P.take kn) _ _ _ (fun _ => True) (fun _ => False) rfl rfl (Kd.R_nil _ _ _ _ _) (take_row (Kd.C_below CPa.out hb2) HKN.out rfl) (fun _ _ h => h) (fun _ h => h.elim) (fun _ _ => trivial) (Below.refl _ _) (Nat.le_refl _) (by simp only [List.length_append, List.length_cons, List.length_nil, List.length_take]; omega) ?_
        intro u1 w1 ho1 hb1 hg1 hat1
        refine hK.out _ _ trivial (fun _ => ?_)
        clear hK K
        refine norm_ (a' := ?_) ?_ ?_
        rotate_left
        · show Act.put _ (some 36) _ = _
          simp only [Act.put, List.setIfInBounds_toArray, List.set_cons_zero, List.set_cons_succ, i64_w, i32_w]
          rfl
        exact norm_ (by first | (simp only [putAll, Act.put, List.setIfInBounds_toArray, List.set_cons_zero, List.set_cons_succ]; done) | (simp only [putAll, Act.put, List.setIfInBounds_toArray, List.set_cons_zero, List.set_cons_succ]; rfl) | rfl) (hCont (u1, .slice A2 1 c2) _ ⟨below_step hb2 hb1, Kd.R_lower ho1 hb2.size, A2, c2, rfl, Kd.C_below (Kd.R_reads' ho2).2.2 hb1⟩)
    rintro ⟨u1, u2⟩ w5 ⟨hb5, hr5, A2, c2, rfl, hc5⟩
    refine norm_ (a' := ?_) ?_ ?_
    rotate_left
    · simp only [putAll, Act.put, List.setIfInBounds_toArray, List.set_cons_zero, List.set_cons_succ]
      rfl
    refine one_ (i := 6) (N := some 39) #[true, true, true, true, true, true, true, true, true, true, false, false] rfl rfl (by kernel_rfl) (by decide) (fun K hK => ?_)
    refine Kd.R_append_rows_step k37 (w0 := V3) V3.heap.size rfl (.tmp 36) (.tmp 38) 31 37 (.agg #[.bool false, .string ⟨#[]⟩, .string ⟨#[]⟩]) 40 rfl Tryd.underlying31 info37 rfl (by decide) (by omega) u1 (P.take kn) [nbR] _ _ _ (fun _ => True) (fun _ => False) rfl rfl hr5 hc5 (fun _ _ h => h) (fun _ h => h.elim) (fun _ _ => trivial) hb5 hb5.size (by simp only [List.length_append, List.length_cons, List.length_nil, List.length_take]; omega) ?_
    intro u3 w6 hr6 hb6 hg6 hat6
    refine hK.out _ _ trivial (fun _ => ?_)
    clear hK K
    refine norm_ (a' := ?_) ?_ ?_
    rotate_left
    · show Act.put _ (some 39) _ = _
      simp only [Act.put, List.setIfInBounds_toArray, List.set_cons_zero, List.set_cons_succ, i64_w, i32_w]
      rfl
    refine one_ (i := 10) (N := some 43) #[true, true, true, true, true, true, true, true, true, true, true, false] rfl rfl (by kernel_rfl) (by decide) (fun K hK => ?_)
    refine Kd.R_append_rows_step k37 (w0 := V3) V3.heap.size rfl (.tmp 39) (.tmp 42) 31 37 (.agg #[.bool false, .string ⟨#[]⟩, .string ⟨#[]⟩]) 40 rfl Tryd.underlying31 info37 rfl (by decide) (by omega) u3 (P.take kn ++ [nbR]) (P.drop kn) _ _ _ (fun _ => True) (fun _ => False) rfl rfl hr6 (by rw [← HAD.out]; exact drop_row (Kd.C_below CPa.out hb6) HKN.out rfl HPC.out) (fun _ _ h => h) (fun _ h => h.elim) (fun _ _ => trivial) hb6 hb6.size (by simp only [List.length_append, List.length_cons, List.length_nil, List.length_take]; omega) ?_
    intro u4 w7 hr7 hb7 hg7 hat7
    refine hK.out _ _ trivial (fun _ => ?_)
    clear hK K
    refine norm_ (a' := ?_) ?_ ?_
    rotate_left
    · show Act.put _ (some 43) _ = _
      simp only [Act.put, List.setIfInBounds_toArray, List.set_cons_zero, List.set_cons_succ, i64_w, i32_w]
      rfl
    refine pure_ (i := 11) (N := some 9) (v := ?_) (a' := ?_) #[true, true, true, true, true, true, true, true, true, true, true, true] rfl rfl (by kernel_rfl) (fun _ _ _ h => h) (Or.inl ⟨by rfl, ?_⟩) ?_ ?_
    rotate_left
    · intro w'
      go_simp
      with_reducible rfl
    rotate_left
    · simp only [Act.put, List.setIfInBounds_toArray, List.set_cons_zero, List.set_cons_succ, i64_w, i32_w]
      rfl
    refine done_ (by kernel_rfl) ?_
    obtain ⟨A9, c9, e7⟩ := Kd.R_slice hr7
    subst e7
    have HM9 := Aside0.mk (Kd.R_reads' hr7).2
    have HB7 := Aside0.mk (below_step HDa.out hb7)
    have HL9 := Aside0.mk (fine_in HF.out (show fineRules [nbR] = true by decide) kn)
    have hmay9 : ∀ (c : List UInt8) (sub : Int), mayL (P.take kn ++ [nbR] ++ P.drop kn) c [98, 111, 98, 47, 112, 97, 100] sub = mayL P c [98, 111, 98, 47, 112, 97, 100] sub := fun c sub => may_in (nb_not c sub) P kn
    have HY9 := Aside0.mk hmay9
    clear hr7 hb7 hg7 hat7 hr6 hb6 hg6 hat6 hr5 hb5 hc5 hmay9
    have CQb := Aside0.mk (Kd.C_below CQa.out HB7.out)
    generalize P.take kn ++ [nbR] ++ P.drop kn = L9 at *
    go_wp2
    refine start_ (n := 12) (S := fun _ => True) (ds := []) #[false, false, false, false, false, false, false, false, false, false, false, false] (by kernel_rfl) rfl rfl trivial (fun _ => ?_)
    have HDb := Aside0.mk (below_drew1 (Below.refl w7.heap.size w7))
    generalize w7.drew = V8 at HDb ⊢
    have CPb := Aside0.mk (Kd.C_below CQb.out HDb.out)
    refine pure_ (i := 0) (N := some 44) (v := ?_) (a' := ?_) #[true, false, false, false, false, false, false, false, false, false, false, false] rfl rfl (by kernel_rfl) (fun _ _ _ h => h) (Or.inl ⟨by rfl, ?_⟩) ?_ ?_
    rotate_left
    · intro w'
      go_simp
      with_reducible rfl
    rotate_left
    · simp only [Act.put, List.setIfInBounds_toArray, List.set_cons_zero, List.set_cons_succ, i64_w, i32_w]
      rfl
    refine pure_ (i := 1) (N := some 45) (v := ?_) (a' := ?_) #[true, true, false, false, false, false, false, false, false, false, false, false] rfl rfl (by kernel_rfl) (fun _ _ _ h => h) (Or.inl ⟨by rfl, ?_⟩) ?_ ?_
    rotate_left
    · intro w'
      go_simp
      with_reducible rfl
    rotate_left
    · simp only [Act.put, List.setIfInBounds_toArray, List.set_cons_zero, List.set_cons_succ, i64_w, i32_w]
      rfl
    refine pure_ (i := 2) (N := some 46) (v := .slice A3 kn c3) (a' := ?_) #[true, true, true, false, false, false, false, false, false, false, false, false] rfl rfl (by kernel_rfl) (fun _ _ _ h => h) (Or.inl ⟨by rfl, ?_⟩) ?_ ?_
    · intro w'
      exact run_slice_op rfl rfl elem31 hcut3
    rotate_left
    · simp only [Act.put, List.setIfInBounds_toArray, List.set_cons_zero, List.set_cons_succ, i64_w, i32_w]
      rfl
    refine pure_ (i := 4) (N := some 48) (v := ?_) (a' := ?_) #[true, true, true, false, true, false, false, false, false, false, false, false] rfl rfl (by kernel_rfl) (fun _ _ _ h => h) (Or.inl ⟨by rfl, ?_⟩) ?_ ?_
    rotate_left
    · intro w'
      go_simp
      with_reducible rfl
    rotate_left
    · simp only [Act.put, List.setIfInBounds_toArray, List.set_cons_zero, List.set_cons_succ, i64_w, i32_w]
      rfl
    refine pure_ (i := 7) (N := some 51) (v := ?_) (a' := ?_) #[true, true, true, false, true, false, false, true, false, false, false, false] rfl rfl (by kernel_rfl) (fun _ _ _ h => h) (Or.inl ⟨by rfl, ?_⟩) ?_ ?_
    rotate_left
    · intro w'
      go_simp
      with_reducible rfl
    rotate_left
    · simp only [Act.put, List.setIfInBounds_toArray, List.set_cons_zero, List.set_cons_succ, i64_w, i32_w]
      rfl
    refine pure_ (i := 8) (N := some 52) (v := ?_) (a' := ?_) #[true, true, true, false, true, false, false, true, true, false, false, false] rfl rfl (by kernel_rfl) (fun _ _ _ h => h) (Or.inl ⟨by rfl, ?_⟩) ?_ ?_
    rotate_left
    · intro w'
      go_simp
      with_reducible rfl
    rotate_left
    · simp only [Act.put, List.setIfInBounds_toArray, List.set_cons_zero, List.set_cons_succ, i64_w, i32_w]
      rfl
    refine pure_ (i := 9) (N := some 53) (v := .slice AD (P.length - kn) (c3 - kn)) (a' := ?_) #[true, true, true, false, true, false, false, true, true, true, false, false] rfl rfl (by kernel_rfl) (fun _ _ _ h => h) (Or.inl ⟨by rfl, ?_⟩) ?_ ?_
    · intro w'
      exact run_slice_op rfl rfl elem31 hdrop3
    rotate_left
    · simp only [Act.put, List.setIfInBounds_toArray, List.set_cons_zero, List.set_cons_succ, i64_w, i32_w]
      rfl
    refine join_ (σ := Value × Value) 3 #[true, true, true, true, true, true, false, true, true, true, false, false] (fun s_ => [(47, s_.1), (49, s_.2)]) (fun s_ w' => Below V8.heap.size V8 w' ∧ Kd.R k37 37 w' V8.heap.size (fun _ => True) s_.1 (P.take kn) ∧ ∃ A2 c2, s_.2 = .slice A2 1 c2 ∧ Kd.C k37 w' A2 1 [dvR]) ?_ ?_
    rotate_left
    · intro hCont
      refine two_ (i := 3) (j := 5) (Ni := some 47) (Nj := some 49) #[true, true, true, true, true, false, false, true, true, true, false, false] #[true, true, true, false, true, true, false, true, true, true, false, false] rfl rfl rfl rfl (by kernel_rfl) (by decide) (by decide) (fun K hK => ?_) (fun K hK => ?_)
      · skip
        refine Kd.R_append_rows_step k37 (w0 := V8) V8.heap.size rfl (.const (.slice none 0 0)) (.tmp 46) 31 37 (.agg #[.bool false, .string ⟨#[]⟩, .string ⟨#[]⟩]) 40 rfl Tryd.underlying31 info37 rfl (by decide) (by omega) (.slice none 0 0) ([] : List S37) (P.take kn) _ _ _ (fun _ => True) (fun _ => False) rfl rfl (Kd.R_nil _ _ _ _ _) (take_row CPb.out HKN.out rfl) (fun _ _ h => h) (fun _ h => h.elim) (fun _ _ => trivial) (Below.refl _ _) (Nat.le_refl _) (by simp only [List.length_append, List.length_cons, List.length_nil, List.length_take]; omega) ?_
        intro u1 w1 ho1 hb1 hg1 hat1
        refine hK.out _ _ trivial (fun _ => ?_)
        clear hK K
        refine norm_ (a' := ?_) ?_ ?_
        rotate_left
        · show Act.put _ (some 47) _ = _
          simp only [Act.put, List.setIfInBounds_toArray, List.set_cons_zero, List.set_cons_succ, i64_w, i32_w]
          rfl
        refine one_ (i := 5) (N := some 49) #[true, true, true, true, true, true, false, true, true, true, false, false] rfl rfl (by kernel_rfl) (by decide) (fun K hK => ?_)
        refine Kd.R_lit_step k37 _ 37 ?hg (N := 49) ?hd (xs := [dvR]) (inner := [.bool dvR.f0, .string dvR.f1, .string dvR.f2]) (ok := fun _ => True) (okp := fun _ => True) ?hr ?hp (fun _ hk => hk) trivial (Below.refl _ _) (Nat.le_refl _) (by simp) ?_
        case hd => rfl
        case hg => rfl
        case hr => first | (go_simp; done) | (go_simp; rfl)
        case hp => exact (Reps.c3 (show Kd.M k37 _ _ _ dvR [.bool dvR.f0, .string dvR.f1, .string dvR.f2] from (k37_mkM _ _ _ dvR)) (Reps.none _ _))
        intro u2 w2 ho2 hb2 hg2 hnew2
        obtain ⟨A2, c2, e2⟩ := Kd.R_slice ho2
        subst e2
        refine hK.out _ _ trivial (fun _ => ?_)
        clear hK K
        refine norm_ (a' := ?_) ?_ ?_
        rotate_left
        · show Act.put _ (some 49) _ = _
          simp only [Act.put, List.setIfInBounds_toArray, List.set_cons_zero, List.set_cons_succ, i64_w, i32_w]
          rfl
        exact norm_ (by first | (simp only [putAll, Act.put, List.setIfInBounds_toArray, List.set_cons_zero, List.set_cons_succ]; done) | (simp only [putAll, Act.put, List.setIfInBounds_toArray, List.set_cons_zero, List.set_cons_succ]; rfl) | rfl) (hCont (u1, .slice A2 1 c2) _ ⟨below_step hb1 hb2, Kd.R_below ho1 hb2, A2, c2, rfl, (Kd.R_reads' ho2).2.2⟩)
      · skip
        refine Kd.R_lit_step k37 _ 37 ?hg (N := 49) ?hd (xs := [dvR]) (inner := [.bool dvR.f0, .string dvR.f1, .string dvR.f2]) (ok := fun _ => True) (okp := fun _ => True) ?hr ?hp (fun _ hk => hk) trivial (Below.refl _ _) (Nat.le_refl _) (by simp) ?_
        case hd => rfl
        case hg => rfl
        case hr => first | (go_simp; done) | (go_simp; rfl)
        case hp => exact (Reps.c3 (show Kd.M k37 _ _ _ dvR [.bool dvR.f0, .string dvR.f1, .string dvR.f2] from (k37_mkM _ _ _ dvR)) (Reps.none _ _))
        intro u2 w2 ho2 hb2 hg2 hnew2
        obtain ⟨A2, c2, e2⟩ := Kd.R_slice ho2
        subst e2
        refine hK.out _ _ trivial (fun _ => ?_)
        clear hK K
        refine norm_ (a' := ?_) ?_ ?_
        rotate_left
        · show Act.put _ (some 49) _ = _
          simp only [Act.put, List.setIfInBounds_toArray, List.set_cons_zero, List.set_cons_succ, i64_w, i32_w]
          rfl
        refine one_ (i := 3) (N := some 47) #[true, true, true, true, true, true, false, true, true, true, false, false] rfl rfl (by kernel_rfl) (by decide) (fun K hK => ?_)
        refine Kd.R_append_rows_step k37 (w0 := w2) w2.heap.size rfl (.const (.slice none 0 0)) (.tmp 46) 31 37 (.agg #[.bool false, .string ⟨#[]⟩, .string ⟨#[]⟩]) 40 rfl Tryd.underlying31 info37 rfl (by decide) (by omega) (.slice none 0 0) ([] : List S37) (P.take kn) _ _ _ (fun _ => True) (fun _ => False) rfl rfl (Kd.R_nil _ _ _ _ _) (take_row (Kd.C_below CPb.out hb2) HKN.out rfl) (fun _ _ h => h) (fun _ h => h.elim) (fun _ _ => trivial) (Below.refl _ _) (Nat.le_refl _) (by simp only [List.length_append, List.length_cons, List.length_nil, List.length_take]; omega) ?_
        intro u1 w1 ho1 hb1 hg1 hat1
        refine hK.out _ _ trivial (fun _ => ?_)
        clear hK K
        refine norm_ (a' := ?_) ?_ ?_
        rotate_left
        · show Act.put _ (some 47) _ = _
          simp only [Act.put, List.setIfInBounds_toArray, List.set_cons_zero, List.set_cons_succ, i64_w, i32_w]
          rfl
        exact norm_ (by first | (simp only [putAll, Act.put, List.setIfInBounds_toArray, List.set_cons_zero, List.set_cons_succ]; done) | (simp only [putAll, Act.put, List.setIfInBounds_toArray, List.set_cons_zero, List.set_cons_succ]; rfl) | rfl) (hCont (u1, .slice A2 1 c2) _ ⟨below_step hb2 hb1, Kd.R_lower ho1 hb2.size, A2, c2, rfl, Kd.C_below (Kd.R_reads' ho2).2.2 hb1⟩)
    rintro ⟨u1, u2⟩ w5 ⟨hb5, hr5, A2, c2, rfl, hc5⟩
    refine norm_ (a' := ?_) ?_ ?_
    rotate_left
    · simp only [putAll, Act.put, List.setIfInBounds_toArray, List.set_cons_zero, List.set_cons_succ]
      rfl
    refine one_ (i := 6) (N := some 50) #[true, true, true, true, true, true, true, true, true, true, false, false] rfl rfl (by kernel_rfl) (by decide) (fun K hK => ?_)
    refine Kd.R_append_rows_step k37 (w0 := V8) V8.heap.size rfl (.tmp 47) (.tmp 49) 31 37 (.agg #[.bool false, .string ⟨#[]⟩, .string ⟨#[]⟩]) 40 rfl Tryd.underlying31 info37 rfl (by decide) (by omega) u1 (P.take kn) [dvR] _ _ _ (fun _ => True) (fun _ => False) rfl rfl hr5 hc5 (fun _ _ h => h) (fun _ h => h.elim) (fun _ _ => trivial) hb5 hb5.size (by simp only [List.length_append, List.length_cons, List.length_nil, List.length_take]; omega) ?_
    intro u3 w6 hr6 hb6 hg6 hat6
    refine hK.out _ _ trivial (fun _ => ?_)
    clear hK K
    refine norm_ (a' := ?_) ?_ ?_
    rotate_left
    · show Act.put _ (some 50) _ = _
      simp only [Act.put, List.setIfInBounds_toArray, List.set_cons_zero, List.set_cons_succ, i64_w, i32_w]
      rfl
    refine one_ (i := 10) (N := some 54) #[true, true, true, true, true, true, true, true, true, true, true, false] rfl rfl (by kernel_rfl) (by decide) (fun K hK => ?_)
    refine Kd.R_append_rows_step k37 (w0 := V8) V8.heap.size rfl (.tmp 50) (.tmp 53) 31 37 (.agg #[.bool false, .string ⟨#[]⟩, .string ⟨#[]⟩]) 40 rfl Tryd.underlying31 info37 rfl (by decide) (by omega) u3 (P.take kn ++ [dvR]) (P.drop kn) _ _ _ (fun _ => True) (fun _ => False) rfl rfl hr6 (by rw [← HAD.out]; exact drop_row (Kd.C_below CPb.out hb6) HKN.out rfl HPC.out) (fun _ _ h => h) (fun _ h => h.elim) (fun _ _ => trivial) hb6 hb6.size (by simp only [List.length_append, List.length_cons, List.length_nil, List.length_take]; omega) ?_
    intro u4 w7 hr7 hb7 hg7 hat7
    refine hK.out _ _ trivial (fun _ => ?_)
    clear hK K
    refine norm_ (a' := ?_) ?_ ?_
    rotate_left
    · show Act.put _ (some 54) _ = _
      simp only [Act.put, List.setIfInBounds_toArray, List.set_cons_zero, List.set_cons_succ, i64_w, i32_w]
      rfl
    refine pure_ (i := 11) (N := some 10) (v := ?_) (a' := ?_) #[true, true, true, true, true, true, true, true, true, true, true, true] rfl rfl (by kernel_rfl) (fun _ _ _ h => h) (Or.inl ⟨by rfl, ?_⟩) ?_ ?_
    rotate_left
    · intro w'
      go_simp
      with_reducible rfl
    rotate_left
    · simp only [Act.put, List.setIfInBounds_toArray, List.set_cons_zero, List.set_cons_succ, i64_w, i32_w]
      rfl
    refine done_ (by kernel_rfl) ?_
    obtain ⟨A10, c10, e7⟩ := Kd.R_slice hr7
    subst e7
    have HM10 := Aside0.mk (Kd.R_reads' hr7).2
    have HB10 := Aside0.mk (below_step HDb.out hb7)
    have HL10 := Aside0.mk (fine_in HF.out (show fineRules [dvR] = true by decide) kn)
    have hmay10 : ∀ (c : List UInt8) (sub : Int), mayL (P.take kn ++ [dvR] ++ P.drop kn) c [98, 111, 98, 47, 112, 97, 100] sub = mayL P c [98, 111, 98, 47, 112, 97, 100] sub := fun c sub => may_in (dv_not c sub) P kn
    have HY10 := Aside0.mk hmay10
    clear hr7 hb7 hg7 hat7 hr6 hb6 hg6 hat6 hr5 hb5 hc5 hmay10
    generalize P.take kn ++ [dvR] ++ P.drop kn = L10 at *
    have CP := Aside0.mk (Kd.C_below CQb.out HB10.out)
    have C9 := Aside0.mk (Kd.C_below HM9.out.2 HB10.out)
    have C10 := Aside0.mk HM10.out.2
    have n9 := HM9.out.1
    have n10 := HM10.out.1
    rename_i wb
    have HLA := Aside0.mk (show w.heap.size < W1.heap.size from by have := HB1.out.size; simp only [World.size_alloc] at this; omega)
    have s2 := HB2.out.size
    have s3 := HB3.out.size
    have s7 := HB7.out.size
    have s10 := HB10.out.size
    have HLT0 := Aside0.mk (show w.heap.size < w7.heap.size from by have := HLA.out; omega)
    have ITE := Aside0.mk ((((IT1.out.after HLA.out HB2.out).after (by have := HLA.out; omega) HB3.out).after (by have := HLA.out; omega) HB7.out).after (by have := HLA.out; omega) HB10.out)
    have HBE := Aside0.mk (apart_below HB1.out HB2.out HB3.out HB7.out HB10.out)
    clear s2 s3 s7 s10
    have HLW := HLT0
    clear HLT0
    go_wp2
    go_loopw [11] (fun v11 wr => ∃ i : Nat, v11 = .int .i64 i ∧ i ≤ 4 ∧ Aside0 (Below w7.heap.size w7 wr)) (fun v11 _ => 4 - (intOf v11).toNat)
    case atStart => exact ⟨0, rfl, by omega, ⟨Below.refl _ _⟩⟩
    case round =>
      obtain ⟨i, rfl, hi, HX0⟩ := hrel
      by_cases hlt : i < 4
      · obtain ⟨m, hm⟩ : ∃ m, m = mayL P (kindL a0 a1.data.toList) [98, 111, 98, 47, 112, 97, 100] (i : Int) := ⟨_, rfl⟩
        have m1 := May_L P a0 a1 a2 a3 a4 a5 a6 a7 a8 a9 a10 l1 (i : Int) HF.out
        have m2 := May_L L9 a0 a1 a2 a3 a4 a5 a6 a7 a8 a9 a10 l1 (i : Int) HL9.out
        have m3 := May_L L10 a0 a1 a2 a3 a4 a5 a6 a7 a8 a9 a10 l1 (i : Int) HL10.out
        rw [HY9.out, ← hm] at m2
        rw [HY10.out, ← hm] at m3
        rw [← hm] at m1
        have HN1 := Aside0.mk m1
        have HN2 := Aside0.mk m2
        have HN3 := Aside0.mk m3
        have hmm : (m != m) = false := by cases m <;> rfl
        clear hm m1 m2 m3
        have HLT0 := Aside0.mk (show w.heap.size < wr.heap.size from by have := HX0.out.size; have := HLW.out; omega)
        have IX0 := Aside0.mk (ITE.out.after HLW.out HX0.out)
        have it0 := IX0.out
        obtain ⟨q0_0, q0_1, q0_2, q0_3, q0_4, q0_5, q0_6, q0_7, q0_8, q0_9, q0_10, q0_11⟩ := it0
        have hlti : (i : Int) < 4 := by omega
        go_wp2_with (first | (go_at_call 13; refine (rules_May.calls A3 c3 P a0 a1 a2 a3 a4 a5 a6 a7 a8 a9 a10 A1 c1 l1 ⟨#[98, 111, 98, 47, 112, 97, 100]⟩ (i : Int) m _ (Kd.C_below CP.out HX0.out) HPC.out (Kd.C_below (Kd.C_below HC1.out HBE.out) HX0.out) hc1 HN1.out).mono ?_; clear HN1; rintro e x1 ⟨rfl, hx1⟩; have HX1 := Aside0.mk (below_step HX0.out hx1); have IX1 := Aside0.mk (IX0.out.after HLT0.out hx1); have HLT1 := Aside0.mk (show w.heap.size < x1.heap.size from by have := hx1.size; have := HLT0.out; omega); clear hx1 q0_0 q0_1 q0_2 q0_3 q0_4 q0_5 q0_6 q0_7 q0_8 q0_9 q0_10 q0_11; have it1 := IX1.out; obtain ⟨q1_0, q1_1, q1_2, q1_3, q1_4, q1_5, q1_6, q1_7, q1_8, q1_9, q1_10, q1_11⟩ := it1) | (go_at_call 13; refine (rules_May.calls A9 c9 L9 a0 a1 a2 a3 a4 a5 a6 a7 a8 a9 a10 A1 c1 l1 ⟨#[98, 111, 98, 47, 112, 97, 100]⟩ (i : Int) m _ (Kd.C_below C9.out HX1.out) n9 (Kd.C_below (Kd.C_below HC1.out HBE.out) HX1.out) hc1 HN2.out).mono ?_; clear HN2; rintro e x2 ⟨rfl, hx2⟩; have HX2 := Aside0.mk (below_step HX1.out hx2); have IX2 := Aside0.mk (IX1.out.after HLT1.out hx2); have HLT2 := Aside0.mk (show w.heap.size < x2.heap.size from by have := hx2.size; have := HLT1.out; omega); clear hx2 q1_0 q1_1 q1_2 q1_3 q1_4 q1_5 q1_6 q1_7 q1_8 q1_9 q1_10 q1_11; have it2 := IX2.out; obtain ⟨q2_0, q2_1, q2_2, q2_3, q2_4, q2_5, q2_6, q2_7, q2_8, q2_9, q2_10, q2_11⟩ := it2) | (go_at_call 13; refine (rules_May.calls A10 c10 L10 a0 a1 a2 a3 a4 a5 a6 a7 a8 a9 a10 A1 c1 l1 ⟨#[98, 111, 98, 47, 112, 97, 100]⟩ (i : Int) m _ (Kd.C_below C10.out HX2.out) n10 (Kd.C_below (Kd.C_below HC1.out HBE.out) HX2.out) hc1 HN3.out).mono ?_; clear HN3; rintro e x3 ⟨rfl, hx3⟩; have HX3 := Aside0.mk (below_step HX2.out hx3); have IX3 := Aside0.mk (IX2.out.after HLT2.out hx3); have HLT3 := Aside0.mk (show w.heap.size < x3.heap.size from by have := hx3.size; have := HLT2.out; omega); clear hx3 q2_0 q2_1 q2_2 q2_3 q2_4 q2_5 q2_6 q2_7 q2_8 q2_9 q2_10 q2_11; have it3 := IX3.out; obtain ⟨q3_0, q3_1, q3_2, q3_3, q3_4, q3_5, q3_6, q3_7, q3_8, q3_9, q3_10, q3_11⟩ := it3))
        go_roundw
        case rel => exact ⟨i + 1, by go_num, by omega, HX3⟩
        case measure => simp [intOf]; omega
      · have hlti : (4 : Int) ≤ (i : Int) := by omega
        go_wp2
        go_ret
        exact ⟨rfl, HBE.out.trans (HX0.out.mono HBE.out.size)⟩
  · have hr' : rightW y = false := by simpa using hr
    have hR := right_f y hfy
    rw [hr'] at hR
    have HR := Aside0.mk hR
    have HCY := Aside0.mk hcy
    clear hR hcy hr hr' hfit hr0 hy hfy
    go_enter Tryd.func5, Tryd.ntmps5
    go_wp2_with (first | (go_at_call 8; refine (tidewaterlaw24_lives.calls true _ rfl).mono ?_; rintro e W1 ⟨rfl, hb1⟩; have HB1 := Aside0.mk hb1; clear hb1) | (go_at_call 9; refine (tidewaterlaw24_right.calls A0 c0 y false _ (Kd.C_below (Kd.C_below HCY.out ((Below.refl _ w).alloc (Nat.le_refl _) _)) HB1.out) hyc HR.out).mono ?_; rintro e W2 ⟨rfl, hb2⟩; have HB2 := Aside0.mk hb2; clear hb2))
    go_ret
    exact ⟨rfl, apart_below2 HB1.out HB2.out⟩
end Go.Proofs.YtajndnaeknfogaaDoor.Q
