/- The contracts of the reference's states and who: whether a text may be a rule's last part; condition: a text of at most 2^63 - 1 bytes. -/
import Derived.Test.YtajndnaeknfogaaDoorGt
namespace Go.Proofs.YtajndnaeknfogaaDoor.Q
open Go.RowKit Go.Proofs.YtajndnaeknfogaaDoorW.PrintWords Go.Proofs.YtajndnaeknfogaaDoorW.PrintLast Go.Proofs.YtajndnaeknfogaaDoorW.PrintMore
set_option linter.unusedVariables false
set_option linter.unusedSimpArgs false

theorem statesR_calls (w : World) : Calls Tryd.prog 39 #[] w fun e w' => e = .returned (.agg #[.string ⟨#[64, 110, 111, 110, 101]⟩, .string ⟨#[64, 116, 111]⟩, .string ⟨#[64, 102, 114, 111, 109]⟩, .string ⟨#[64, 98, 111, 116, 104]⟩]) ∧ Below w.heap.size w w' := by
  have hu71 := Tryd.underlying71
  go_enter Tryd.func39, Tryd.ntmps39
  go_wp2
  exact bodyPost_ret (v := .agg #[.string ⟨#[64, 110, 111, 110, 101]⟩, .string ⟨#[64, 116, 111]⟩, .string ⟨#[64, 102, 114, 111, 109]⟩, .string ⟨#[64, 98, 111, 116, 104]⟩]) (by simp [results, Tryd.results39, go_sem]) rfl ⟨rfl, (Below.refl _ _).alloc (Nat.le_refl _) _⟩

/-! ### a text that ends with a star is no address and no state -/
theorem pre_post (l : List UInt8) : l = preL l ++ (if hasL l then 47 :: postL l else []) := by
  rcases slash l with ⟨h1, h2, h3, h4⟩ | ⟨i, h0, h1, h2, h3, h4⟩
  · rw [h2, h4]; simp
  · have hs := (Lib.indexByte_some h1).1
    rw [h2, h3, h4]
    simp only [if_true]
    have : l[i] = 47 := by rw [List.getElem?_eq_getElem h0] at hs; exact Option.some.inj hs
    rw [← this, ← List.drop_eq_getElem_cons h0, List.take_append_drop]
theorem ok_chars {l : List UInt8} (h : okL l = true) : l.all (fun b => isLow b || decide (b = 47)) = true := by
  unfold okL at h
  simp only [Bool.and_eq_true, Bool.or_eq_true] at h
  obtain ⟨h1, h2⟩ := h
  have low : ∀ {m : List UInt8}, userL m = true → m.all (fun b => isLow b || decide (b = 47)) = true := fun {m} hm => by
    unfold userL at hm
    simp only [Bool.and_eq_true] at hm
    rw [List.all_eq_true]
    intro x hx
    simp [List.all_eq_true.mp hm.2 x hx]
  rw [pre_post l, List.all_append, low h1]
  cases hh : hasL l
  · rfl
  · rw [hh] at h2
    simp only [Bool.not_true, Bool.false_eq_true, false_or] at h2
    simp only [if_true, List.all_cons, low h2]
    rfl
theorem star_not {l : List UInt8} (h : starL l = true) : okL l = false ∧ stateIx l = -1 := by
  obtain ⟨m, rfl⟩ := (star_iff l).mp h
  constructor
  · cases ho : okL (m ++ [42])
    · rfl
    · have := ok_chars ho
      rw [List.all_append] at this
      have h2 : ([42] : List UInt8).all (fun b => isLow b || decide (b = 47)) = false := by decide
      rw [h2] at this
      simp at this
  · unfold stateIx
    have g : ∀ {a : List UInt8} , a.getLast? ≠ some 42 → ¬ m ++ [42] = a := fun ha e => ha (by rw [← e]; simp)
    rw [if_neg (g (by decide)), if_neg (g (by decide)), if_neg (g (by decide)), if_neg (g (by decide))]

theorem stateIx_any (l : List UInt8) : decide (0 ≤ stateIx l) = ([([64, 110, 111, 110, 101] : List UInt8), [64, 116, 111], [64, 102, 114, 111, 109], [64, 98, 111, 116, 104]].any (fun s => s == l)) := by
  unfold stateIx
  by_cases h1 : l = [64, 110, 111, 110, 101]
  · subst h1; decide
  · by_cases h2 : l = [64, 116, 111]
    · subst h2; decide
    · by_cases h3 : l = [64, 102, 114, 111, 109]
      · subst h3; decide
      · by_cases h4 : l = [64, 98, 111, 116, 104]
        · subst h4; decide
        · simp [h1, h2, h3, h4, Ne.symm h1, Ne.symm h2, Ne.symm h3, Ne.symm h4]

def tidewaterref24_who.f (a0 : ByteArray) : Option Bool := if a0.size ≤ 9223372036854775807 then some (whoL a0.data.toList) else none

def stB (k : Nat) (l : List UInt8) : Bool := [([64, 110, 111, 110, 101] : List UInt8), [64, 116, 111], [64, 102, 114, 111, 109], [64, 98, 111, 116, 104]].take k |>.any (fun s => s == l)

def whB (b : Bool) (k : Nat) (l : List UInt8) : Bool := b || stB k l

theorem whB_0 {b : Bool} {l : List UInt8} (h : whB b 0 l = false) : whB b 1 l = (([64, 110, 111, 110, 101] : List UInt8) == l) := by
  cases b
  · simp [whB, stB]
  · cases h
theorem whB_1 {b : Bool} {l : List UInt8} (h : whB b 1 l = false) : whB b 2 l = (([64, 116, 111] : List UInt8) == l) := by
  unfold whB stB at *
  cases b
  · simp only [Bool.false_or, List.take, List.any_cons, List.any_nil, Bool.or_false] at h ⊢; rw [h]; rfl
  · cases h
theorem whB_2 {b : Bool} {l : List UInt8} (h : whB b 2 l = false) : whB b 3 l = (([64, 102, 114, 111, 109] : List UInt8) == l) := by
  unfold whB stB at *
  cases b
  · simp only [Bool.false_or, List.take, List.any_cons, List.any_nil, Bool.or_false, Bool.or_eq_false_iff] at h ⊢; rw [h.1, h.2]; rfl
  · cases h
theorem whB_3 {b : Bool} {l : List UInt8} (h : whB b 3 l = false) : whB b 4 l = (([64, 98, 111, 116, 104] : List UInt8) == l) := by
  unfold whB stB at *
  cases b
  · simp only [Bool.false_or, List.take, List.any_cons, List.any_nil, Bool.or_false, Bool.or_eq_false_iff] at h ⊢; rw [h.1, h.2.1, h.2.2]; rfl
  · cases h
theorem whB_more {b : Bool} {k : Nat} {l : List UInt8} (h : whB b k l = true) : whB b (k + 1) l = true := by
  unfold whB stB at *
  cases b
  · simp only [Bool.false_or, List.any_eq_true] at h ⊢
    obtain ⟨x, hx, hp⟩ := h
    exact ⟨x, List.mem_of_mem_take (show x ∈ List.take k _ from by rw [List.take_take, Nat.min_eq_left (by omega)]; exact hx), hp⟩
  · rfl

theorem who_eq (l : List UInt8) : whoL l = (whB (okL l) 4 l || (starL l && (decide (l.dropLast = []) || userL l.dropLast))) := by
  have h4 : whB (okL l) 4 l = (okL l || decide (0 ≤ stateIx l)) := by rw [stateIx_any]; rfl
  rw [h4]
  unfold whoL
  cases hst : starL l
  · simp
  · have := star_not hst
    rw [this.1, this.2]; simp
theorem star_bt {s : ByteArray} (h : 1 ≤ s.size) : starL s.data.toList = decide (bt s ((s.size : Int) - 1) = 42) := by
  have hl := size_list s
  have e : ((s.size : Int) - 1) = ((s.size - 1 : Nat) : Int) := by omega
  have e2 : s.data.toList.getLast? = some (s.data.toList[s.size - 1]'(by omega)) := by
    rw [List.getLast?_eq_getElem?]
    have e3 : s.data.toList.length - 1 = s.size - 1 := by omega
    rw [e3]; exact List.getElem?_eq_getElem _
  rw [e, bt_nat (by omega)]
  unfold starL
  rw [e2, decide_eq_decide]
  constructor
  · intro h; rw [Option.some.inj h]; rfl
  · intro h; congr 1; exact UInt8.toNat_inj.mp (by have h47 : (42 : UInt8).toNat = 42 := rfl; omega)

theorem who_below {w w2 : World} {n : Nat} {o : Obj} (hb : Below (w.drewN n).heap.size (w.drewN n) w2) : Below w.heap.size w (w2.alloc o) :=
  ((pw_below_drewN (Below.refl _ w) n).trans hb).alloc hb.size _

set_option maxHeartbeats 4000000 in
set_option maxRecDepth 100000 in
theorem tidewaterref24_who.calls (a0 : ByteArray) (r : Bool) (w : World) (h : tidewaterref24_who.f a0 = some r) :
    Calls Tryd.prog 38 #[.string a0] w fun e w' => e = .returned (.bool r) ∧ Below w.heap.size w w' := by
  unfold tidewaterref24_who.f at h
  by_cases hs : a0.size ≤ 9223372036854775807
  · rw [if_pos hs] at h
    obtain rfl := Option.some.inj h
    clear h
    obtain ⟨k, hk⟩ := (AddressR_ev a0 hs).rounds
    have cA := fun W => tidewaterref05_Address.calls k a0 _ _ _ W hk
    have hu71 := Tryd.underlying71
    have HA := Aside0.mk cA
    have HST := Aside0.mk statesR_calls
    clear cA hk
    have hl := Aside0.mk (size_list a0)
    have htl := Aside0.mk (Lib.toList_data a0)
    generalize ofL (preL a0.data.toList) = P1 at *
    generalize ofL (postL a0.data.toList) = P2 at *
    go_enter Tryd.func38, Tryd.ntmps38
    go_wp2_with (first | (go_at_call 40; refine (HA.out _).mono ?_; rintro e w' ⟨rfl, ⟨n1, rfl⟩⟩) | (go_at_call 39; refine (HST.out _).mono ?_; rintro e w2 ⟨rfl, hb⟩))
    obtain ⟨B0, hB0⟩ : ∃ B0, okL a0.data.toList = B0 := ⟨_, rfl⟩
    rw [hB0]
    go_loop [5, 7] (fun v5 v7 => ∃ k : Nat, k ≤ 4 ∧ v7 = .int .i64 k ∧ v5 = .bool (whB B0 k a0.data.toList)) (fun _ v7 => 4 - (intOf v7).toNat)
    case atStart => exact ⟨0, by omega, rfl, by simp [whB, stB]⟩
    case round =>
      obtain ⟨k, hk4, rfl, rfl⟩ := hrel
      by_cases hlt : k < 4
      · cases hbk : whB B0 k a0.data.toList
        · have HK := Aside0.mk hbk
          clear hbk
          rcases (show k = 0 ∨ k = 1 ∨ k = 2 ∨ k = 3 by omega) with rfl | rfl | rfl | rfl
          · go_wp2
            go_round
            case rel => exact ⟨1, by omega, rfl, by rw [htl.out, whB_0 HK.out]⟩
            case measure => simp [intOf]
          · go_wp2
            go_round
            case rel => exact ⟨2, by omega, rfl, by rw [htl.out, whB_1 HK.out]⟩
            case measure => simp [intOf]
          · go_wp2
            go_round
            case rel => exact ⟨3, by omega, rfl, by rw [htl.out, whB_2 HK.out]⟩
            case measure => simp [intOf]
          · go_wp2
            go_round
            case rel => exact ⟨4, by omega, rfl, by rw [htl.out, whB_3 HK.out]⟩
            case measure => simp [intOf]
        · have HK := Aside0.mk (whB_more hbk)
          clear hbk
          go_wp2
          go_round
          case rel => exact ⟨k + 1, by omega, by go_num, by rw [HK.out]⟩
          case measure => simp [intOf]; omega
      · obtain rfl : k = 4 := by omega
        have hwho := who_eq a0.data.toList
        rw [hB0] at hwho
        cases hbk : whB B0 4 a0.data.toList
        · rw [hbk, Bool.false_or] at hwho
          clear hB0 hbk
          by_cases h1 : 1 ≤ a0.size
          · have hst := star_bt h1
            rw [hst] at hwho
            have p4 : (0 : Int) ≤ (a0.size : Int) - 1 := by omega
            have q4 : (a0.size : Int) - 1 < (a0.size : Int) := by omega
            have hx4 := bt_at a0 ((a0.size : Int) - 1)
            have c0 : decide ((0 : Int) < (a0.size : Int)) = true := by simp; omega
            have c0' : (0 : Int) < (a0.size : Int) := by omega
            by_cases h42 : bt a0 ((a0.size : Int) - 1) = 42
            · rw [decide_eq_true h42, Bool.true_and] at hwho
              have b1 : ∀ h : a0.size - 1 < a0.size, (((a0[a0.size - 1]'h).toNat : Int) == 42) = true := fun h => beq_iff_eq.mpr (by rw [← h42, ← hx4 (by omega)]; congr 3; omega)
              clear hx4
              by_cases h2 : a0.size = 1
              · have hd : a0.data.toList.dropLast = [] := by
                  apply List.eq_nil_of_length_eq_zero; rw [List.length_dropLast, size_list]; omega
                rw [hd] at hwho
                have HW := Aside0.mk hwho
                have b2 : ((a0.size : Int) == 1) = true := by rw [h2]; rfl
                clear hwho hst h42 hd h2
                go_wp2
                go_ret
                exact ⟨by rw [HW.out]; rfl, who_below hb⟩
              · have hd : ¬ a0.data.toList.dropLast = [] := by
                  intro h0; have h3 := congrArg List.length h0; rw [List.length_dropLast, size_list] at h3; simp only [List.length_nil] at h3; omega
                rw [decide_eq_false hd, Bool.false_or] at hwho
                have e1 : a0.extract 0 (a0.size - 1) = ofL a0.data.toList.dropLast := ext_of (by rw [Lib.extract_data, List.dropLast_eq_take, size_list]; simp)
                have hsz : (a0.extract 0 (a0.size - 1)).size ≤ 9223372036854775807 := by rw [e1, ← size_list, ofL_data, List.length_dropLast, size_list]; omega
                obtain ⟨k2, hk2⟩ := (UserR_ev _ hsz).rounds
                rw [show (a0.extract 0 (a0.size - 1)).data.toList = a0.data.toList.dropLast by rw [e1, ofL_data], ← hwho] at hk2
                have cU := fun W => tidewaterref05_User.calls k2 _ _ W hk2
                have HU := Aside0.mk cU
                have b2 : ((a0.size : Int) == 1) = false := beq_eq_false_iff_ne.mpr (by omega)
                have c5 : (a0.size : Int) - 1 ≤ (a0.size : Int) := by omega
                clear hwho hst h42 hd h2 e1 hsz hk2 cU
                go_wp2_with (go_at_call 58; refine (HU.out _).mono ?_; rintro e w' ⟨rfl, ⟨n2, rfl⟩⟩)
                go_ret
                exact ⟨rfl, pw_below_drewN (who_below hb) _⟩
            · rw [decide_eq_false h42, Bool.false_and] at hwho
              have b1 : ∀ h : a0.size - 1 < a0.size, (((a0[a0.size - 1]'h).toNat : Int) == 42) = false := fun h => beq_eq_false_iff_ne.mpr (by intro e; apply h42; rw [← e, ← hx4 (by omega)]; congr 3; omega)
              clear hx4
              have HW := Aside0.mk hwho
              clear hwho hst h42
              go_wp2
              go_ret
              exact ⟨by rw [HW.out]; rfl, who_below hb⟩
          · have h0 : a0.data.toList = [] := List.eq_nil_of_length_eq_zero (by rw [size_list]; omega)
            rw [h0] at hwho
            have HW : Aside0 (whoL a0.data.toList = false) := ⟨by rw [h0]; exact hwho⟩
            have c0 : decide ((0 : Int) < (a0.size : Int)) = false := decide_eq_false (by omega)
            have c0' : ¬ (0 : Int) < (a0.size : Int) := by omega
            have c0'' : (a0.size : Int) ≤ 0 := by omega
            clear hwho h0
            go_wp2
            go_ret
            exact ⟨by rw [HW.out]; rfl, who_below hb⟩
        · rw [hbk, Bool.true_or] at hwho
          have HW := Aside0.mk hwho
          have HK := Aside0.mk hbk
          clear hB0 hwho
          go_wp2
          go_ret
          exact ⟨by rw [HW.out]; rfl, who_below hb⟩
  · rw [if_neg hs] at h; cases h
end Go.Proofs.YtajndnaeknfogaaDoor.Q
