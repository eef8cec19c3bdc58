/- The contract of the reference's fits: does a rule fit an address, or a state; condition: texts of at most 2^63 - 1 bytes. -/
import Derived.Test.YtajndnaeknfogaaDoorGg
namespace Go.Proofs.YtajndnaeknfogaaDoor.Q
open Go.RowKit Go.Proofs.YtajndnaeknfogaaDoorW.PrintWords Go.Proofs.YtajndnaeknfogaaDoorW.PrintLast Go.Proofs.YtajndnaeknfogaaDoorW.PrintMore
set_option linter.unusedVariables false
set_option linter.unusedSimpArgs false

def tidewaterref24_fits.f (_ : Bool) (_ a0_2 a1 : ByteArray) (a2 : Int) : Option Bool :=
  if a0_2.size ≤ 9223372036854775807 ∧ a1.size ≤ 9223372036854775807 then some (fitsL a0_2.data.toList a1.data.toList a2) else none

def stD (who : List UInt8) (sub : Int) : Bool := decide (0 ≤ stateIx who) && decide (stateIx who = sub)
def restL (who own : List UInt8) : Bool :=
  if starL who then decide (who.dropLast = []) || okL own && who.dropLast.isPrefixOf (preL own)
  else okL own && okL who && decide (preL who = preL own) && (decide (postL who = []) || decide (postL who = postL own))
theorem state_not_ok {l : List UInt8} (h : 0 ≤ stateIx l) : okL l = false := by
  have hl : l = [64, 110, 111, 110, 101] ∨ l = [64, 116, 111] ∨ l = [64, 102, 114, 111, 109] ∨ l = [64, 98, 111, 116, 104] := by
    unfold stateIx at h
    by_cases h1 : l = [64, 110, 111, 110, 101]
    · exact .inl h1
    · by_cases h2 : l = [64, 116, 111]
      · exact .inr (.inl h2)
      · by_cases h3 : l = [64, 102, 114, 111, 109]
        · exact .inr (.inr (.inl h3))
        · by_cases h4 : l = [64, 98, 111, 116, 104]
          · exact .inr (.inr (.inr h4))
          · rw [if_neg h1, if_neg h2, if_neg h3, if_neg h4] at h; omega
  rcases hl with rfl | rfl | rfl | rfl <;> decide
theorem fits_split (who own : List UInt8) (sub : Int) : fitsL who own sub = (stD who sub || restL who own) := by
  unfold fitsL stD restL
  by_cases h : 0 ≤ stateIx who
  · rw [if_pos h, decide_eq_true h, state_not_ok h]
    cases hst : starL who
    · simp
    · have := star_not hst; omega
  · rw [if_neg h, decide_eq_false h]; simp

theorem last_not {s : ByteArray} (h : 1 ≤ s.size) (hst : starL s.data.toList = false) : ∀ h : s.size - 1 < s.size, (((s[s.size - 1]'h).toNat : Int) == 42) = false := fun hk => by
  rw [star_bt h] at hst
  have h42 := of_decide_eq_false hst
  rw [beq_eq_false_iff_ne]
  intro e
  apply h42
  rw [← e, ← bt_at s ((s.size : Int) - 1) (by omega)]; congr 3; omega
theorem last_yes {s : ByteArray} (h : 1 ≤ s.size) (hst : starL s.data.toList = true) : ∀ h : s.size - 1 < s.size, (((s[s.size - 1]'h).toNat : Int) == 42) = true := fun hk => by
  rw [star_bt h] at hst
  have h42 := of_decide_eq_true hst
  rw [beq_iff_eq, ← h42, ← bt_at s ((s.size : Int) - 1) (by omega)]; congr 3; omega
theorem beq_dec (a b : List UInt8) : (a == b) = decide (a = b) := by rw [Bool.eq_iff_iff]; simp
theorem stD_0 (l : List UInt8) : stD l 0 = decide (([64, 110, 111, 110, 101] : List UInt8) = l) := by
  unfold stD stateIx
  by_cases h1 : l = [64, 110, 111, 110, 101]
  · subst h1; decide
  · rw [if_neg h1, decide_eq_false (Ne.symm h1)]; split <;> (try split) <;> (try split) <;> decide
theorem stD_1 (l : List UInt8) : stD l 1 = decide (([64, 116, 111] : List UInt8) = l) := by
  unfold stD stateIx
  by_cases h1 : l = [64, 116, 111]
  · subst h1; decide
  · rw [if_neg h1, decide_eq_false (Ne.symm h1)]; split <;> (try split) <;> (try split) <;> decide
theorem stD_2 (l : List UInt8) : stD l 2 = decide (([64, 102, 114, 111, 109] : List UInt8) = l) := by
  unfold stD stateIx
  by_cases h1 : l = [64, 102, 114, 111, 109]
  · subst h1; decide
  · rw [if_neg h1, decide_eq_false (Ne.symm h1)]; split <;> (try split) <;> (try split) <;> decide
theorem stD_3 (l : List UInt8) : stD l 3 = decide (([64, 98, 111, 116, 104] : List UInt8) = l) := by
  unfold stD stateIx
  by_cases h1 : l = [64, 98, 111, 116, 104]
  · subst h1; decide
  · rw [if_neg h1, decide_eq_false (Ne.symm h1)]; split <;> (try split) <;> (try split) <;> decide
theorem stD_no (l : List UInt8) (a : Int) (h : ¬ (0 ≤ a ∧ a < 4)) : stD l a = false := by
  unfold stD stateIx
  rw [Bool.and_eq_false_iff]
  simp only [decide_eq_false_iff_not]
  split
  · right; omega
  · split
    · right; omega
    · split
      · right; omega
      · split
        · right; omega
        · left; decide
def stO : Obj := .cells #[.string ⟨#[64, 110, 111, 110, 101]⟩, .string ⟨#[64, 116, 111]⟩, .string ⟨#[64, 102, 114, 111, 109]⟩, .string ⟨#[64, 98, 111, 116, 104]⟩] 71
theorem fits_below {w w2 : World} {o o2 : Obj} (hb : Below (w.alloc o).heap.size (w.alloc o) w2) : Below w.heap.size w (w2.alloc o2) :=
  (((Below.refl _ w).alloc (Nat.le_refl _) _).trans (hb.mono (by simp))).alloc (by have := hb.size; simp at this; omega) _

set_option maxHeartbeats 4000000 in
set_option maxRecDepth 100000 in
theorem tidewaterref24_fits.calls (a0_0 : Bool) (a0_1 a0_2 a1 : ByteArray) (a2 : Int) (r : Bool) (w : World) (h : tidewaterref24_fits.f a0_0 a0_1 a0_2 a1 a2 = some r) :
    Calls Tryd.prog 25 #[.agg #[.bool a0_0, .string a0_1, .string a0_2], .string a1, .int .i64 a2] w fun e w' => e = .returned (.bool r) ∧ Below w.heap.size w w' := by
  unfold tidewaterref24_fits.f at h
  by_cases hs : a0_2.size ≤ 9223372036854775807 ∧ a1.size ≤ 9223372036854775807
  · rw [if_pos hs] at h
    obtain rfl := Option.some.inj h
    clear h
    obtain ⟨k1, hk1⟩ := (AddressR_ev a1 hs.2).rounds
    obtain ⟨k2, hk2⟩ := (AddressR_ev a0_2 hs.1).rounds
    have cA := fun W => tidewaterref05_Address.calls k1 a1 _ _ _ W hk1
    have cB := fun W => tidewaterref05_Address.calls k2 a0_2 _ _ _ W hk2
    have hu71 := Tryd.underlying71
    have hu35 := Tryd.underlying35
    have HA := Aside0.mk cA
    have HB := Aside0.mk cB
    have HST := Aside0.mk statesR_calls
    have HS := Aside0.mk hs
    clear cA cB hk1 hk2 hs
    have hfit := fits_split a0_2.data.toList a1.data.toList a2
    obtain ⟨D, hD⟩ : ∃ D, stD a0_2.data.toList a2 = D := ⟨_, rfl⟩
    rw [hD] at hfit
    have HF := Aside0.mk hfit
    have HD := Aside0.mk hD
    have HT := Aside0.mk (Lib.toList_data a0_2)
    clear hfit hD
    generalize hu1 : ofL (preL a1.data.toList) = U1 at *
    generalize hu2 : ofL (postL a1.data.toList) = U2 at *
    generalize hv1 : ofL (preL a0_2.data.toList) = V1 at *
    generalize hv2 : ofL (postL a0_2.data.toList) = V2 at *
    have HU := Aside0.mk (And.intro hu1 (And.intro hu2 (And.intro hv1 hv2)))
    clear hu1 hu2 hv1 hv2
    go_enter Tryd.func25, Tryd.ntmps25
    go_upto_region 2 with (first | (go_at_call 39; refine (HST.out _).mono ?_; rintro e w2 ⟨rfl, hb⟩))
    go_cut [29] (fun s29 wx => s29 = .bool D ∧ Aside0 (Below w.heap.size w wx) ∧ Aside0 (wx.cell? ⟨w.heap.size, 2, none⟩ = some (.string a0_2)))
    case first =>
      have hlt : w.heap.size < w2.heap.size := by have := hb.size; simp at this; omega
      have c2 : w2.cell? ⟨w.heap.size, 2, none⟩ = some (.string a0_2) := (hb.cell (p := ⟨w.heap.size, 2, none⟩) (by simp)).trans (by simp [go_sem])
      have hbb := Aside0.mk (fits_below (o2 := stO) hb)
      have hcc : Aside0 ((w2.alloc stO).cell? ⟨w.heap.size, 2, none⟩ = some (.string a0_2)) :=
        ⟨by rw [World.cell?_alloc_old _ _ _ (by simp; omega)]; exact c2⟩
      by_cases h0 : 0 ≤ a2
      · by_cases h4 : a2 < 4
        · have hd := HD.out
          rcases (show a2 = 0 ∨ a2 = 1 ∨ a2 = 2 ∨ a2 = 3 by omega) with rfl | rfl | rfl | rfl
          · rw [stD_0, ← HT.out] at hd
            have HD' := Aside0.mk hd
            clear hd HD HF HU HA HB h0 h4
            go_quiet (fail)
            go_wp2_with fail
            go_meet
            case rel => exact ⟨by rw [← HD'.out]; exact congrArg Value.bool (beq_dec _ _), ⟨pw_below_drewN hbb.out _⟩, ⟨hcc.out⟩⟩
          · rw [stD_1, ← HT.out] at hd
            have HD' := Aside0.mk hd
            clear hd HD HF HU HA HB h0 h4
            go_quiet (fail)
            go_wp2_with fail
            go_meet
            case rel => exact ⟨by rw [← HD'.out]; exact congrArg Value.bool (beq_dec _ _), ⟨pw_below_drewN hbb.out _⟩, ⟨hcc.out⟩⟩
          · rw [stD_2, ← HT.out] at hd
            have HD' := Aside0.mk hd
            clear hd HD HF HU HA HB h0 h4
            go_quiet (fail)
            go_wp2_with fail
            go_meet
            case rel => exact ⟨by rw [← HD'.out]; exact congrArg Value.bool (beq_dec _ _), ⟨pw_below_drewN hbb.out _⟩, ⟨hcc.out⟩⟩
          · rw [stD_3, ← HT.out] at hd
            have HD' := Aside0.mk hd
            clear hd HD HF HU HA HB h0 h4
            go_quiet (fail)
            go_wp2_with fail
            go_meet
            case rel => exact ⟨by rw [← HD'.out]; exact congrArg Value.bool (beq_dec _ _), ⟨pw_below_drewN hbb.out _⟩, ⟨hcc.out⟩⟩
        · have hd := HD.out
          rw [stD_no _ _ (by omega)] at hd
          have HD' := Aside0.mk hd
          have hd1 : decide (0 ≤ a2) = true := decide_eq_true h0
          have hd2 : decide (a2 < 4) = false := decide_eq_false h4
          clear hd HD HF HU HA HB
          go_quiet (fail)
          go_wp2_with fail
          go_meet
          case rel => exact ⟨by rw [← HD'.out], ⟨pw_below_drewN hbb.out _⟩, ⟨hcc.out⟩⟩
      · have hd := HD.out
        rw [stD_no _ _ (by omega)] at hd
        have HD' := Aside0.mk hd
        have hd1 : decide (0 ≤ a2) = false := decide_eq_false h0
        clear hd HD HF HU HA HB
        go_quiet (fail)
        go_wp2_with fail
        go_meet
        case rel => exact ⟨by rw [← HD'.out], ⟨pw_below_drewN hbb.out _⟩, ⟨hcc.out⟩⟩
    case rest =>
      clear HD
      obtain ⟨rfl, HBw, HC⟩ := hcut
      cases D
      · have hfit := HF.out
        rw [Bool.false_or] at hfit
        have hC := HC.out
        have hu := HU.out
        have q1e : (V1.toList == U1.toList) = decide (preL a0_2.data.toList = preL a1.data.toList) := by rw [← hu.1, ← hu.2.2.1, ofL_list, ofL_list, beq_dec]
        have q2e : V2.toList.isEmpty = decide (postL a0_2.data.toList = []) := by rw [← hu.2.2.2, ofL_list]; cases postL a0_2.data.toList <;> rfl
        have q3e : (V2.toList == U2.toList) = decide (postL a0_2.data.toList = postL a1.data.toList) := by rw [← hu.2.1, ← hu.2.2.2, ofL_list, ofL_list, beq_dec]
        by_cases hst : starL a0_2.data.toList = true
        · have hne : 1 ≤ a0_2.size := by
            by_cases h1 : 1 ≤ a0_2.size
            · exact h1
            · have h0 : a0_2.data.toList = [] := List.eq_nil_of_length_eq_zero (by rw [size_list]; omega)
              rw [h0] at hst; cases hst
          have hlast := last_yes hne hst
          have hsz := HS.out.1
          have hrest : restL a0_2.data.toList a1.data.toList = (decide (a0_2.data.toList.dropLast = []) || okL a1.data.toList && a0_2.data.toList.dropLast.isPrefixOf (preL a1.data.toList)) := by
            unfold restL; rw [if_pos hst]
          rw [hrest] at hfit
          have hdl : (a0_2.data.toList.dropLast).length = a0_2.size - 1 := by rw [List.length_dropLast, size_list]
          have c0 : decide ((0 : Int) < (a0_2.size : Int)) = true := decide_eq_true (by omega)
          have c1 : (0 : Int) < (a0_2.size : Int) := by omega
          have c2 : (0 : Int) ≤ (a0_2.size : Int) - 1 := by omega
          have c3 : (a0_2.size : Int) - 1 < (a0_2.size : Int) := by omega
          clear q1e q2e q3e hrest HF HC
          by_cases hn : a0_2.size = 1
          · have hd : a0_2.data.toList.dropLast = [] := List.eq_nil_of_length_eq_zero (by omega)
            have HX : Aside0 (fitsL a0_2.data.toList a1.data.toList a2 = true) := ⟨by rw [hfit, hd]; rfl⟩
            have b1 : ((a0_2.size : Int) == 1) = true := by rw [hn]; rfl
            clear hfit hd hdl hst hu HU hn
            go_wp2_with (first | (go_at_call_of 40 (Value.string a1); refine (HA.out _).mono ?_; rintro e w3 ⟨rfl, ⟨n3, rfl⟩⟩))
            go_quiet (fail)
            go_wp2
            go_ret
            exact ⟨by rw [HX.out]; rfl, pw_below_drewN (pw_below_drewN HBw.out _) _⟩
          · have hd : ¬ a0_2.data.toList.dropLast = [] := fun h0 => by rw [h0, List.length_nil] at hdl; omega
            rw [decide_eq_false hd, Bool.false_or] at hfit
            have b1 : ((a0_2.size : Int) == 1) = false := beq_eq_false_iff_ne.mpr (by omega)
            have c5 : (a0_2.size : Int) - 1 ≤ (a0_2.size : Int) := by omega
            cases ho : okL a1.data.toList
            · rw [ho] at HA hfit
              have HX : Aside0 (fitsL a0_2.data.toList a1.data.toList a2 = false) := ⟨hfit⟩
              clear hfit hd hdl hst hu HU hn ho
              go_wp2_with (first | (go_at_call_of 40 (Value.string a1); refine (HA.out _).mono ?_; rintro e w3 ⟨rfl, ⟨n3, rfl⟩⟩))
              go_quiet (fail)
              go_wp2
              go_ret
              exact ⟨by rw [HX.out]; rfl, pw_below_drewN (pw_below_drewN HBw.out _) _⟩
            · rw [ho, Bool.true_and] at hfit
              rw [ho] at HA
              have hU : U1.data.toList = preL a1.data.toList := by rw [← hu.1, ofL_data]
              have hus : U1.size = (preL a1.data.toList).length := by rw [← size_list, hU]
              by_cases hlen : a0_2.size - 1 ≤ U1.size
              · have e1 : (U1.extract 0 (a0_2.size - 1)).toList = (preL a1.data.toList).take (a0_2.size - 1) := by rw [Lib.toList_data, Lib.extract_data, hU]; simp
                have e2 : (a0_2.extract 0 (a0_2.size - 1)).toList = a0_2.data.toList.dropLast := by rw [Lib.toList_data, Lib.extract_data, List.dropLast_eq_take, size_list]; simp
                have hpre : (a0_2.data.toList.dropLast.isPrefixOf (preL a1.data.toList)) = ((U1.extract 0 (a0_2.size - 1)).toList == (a0_2.extract 0 (a0_2.size - 1)).toList) := by
                  rw [e1, e2, Bool.eq_iff_iff, beq_iff_eq, List.isPrefixOf_iff_prefix, List.prefix_iff_eq_take, hdl]
                  exact ⟨fun h => h.symm, fun h => h.symm⟩
                rw [hpre] at hfit
                have HX := Aside0.mk hfit
                have d1 : decide ((a0_2.size : Int) - 1 ≤ (U1.size : Int)) = true := decide_eq_true (by omega)
                have d2 : (a0_2.size : Int) - 1 ≤ (U1.size : Int) := by omega
                clear hfit hd hdl hst hu HU hn ho hU hus e1 e2 hpre hlen
                go_wp2_with (first | (go_at_call_of 40 (Value.string a1); refine (HA.out _).mono ?_; rintro e w3 ⟨rfl, ⟨n3, rfl⟩⟩))
                go_quiet (fail)
                go_wp2
                go_ret
                exact ⟨by rw [HX.out]; rfl, pw_below_drewN (pw_below_drewN HBw.out _) _⟩
              · have hpre : (a0_2.data.toList.dropLast.isPrefixOf (preL a1.data.toList)) = false := by
                  rw [Bool.eq_false_iff]
                  intro h2
                  rw [List.isPrefixOf_iff_prefix] at h2
                  have := h2.length_le
                  omega
                rw [hpre] at hfit
                have HX := Aside0.mk hfit
                have d1 : decide ((a0_2.size : Int) - 1 ≤ (U1.size : Int)) = false := decide_eq_false (by omega)
                clear hfit hd hdl hst hu HU hn ho hU hus hpre hlen
                go_wp2_with (first | (go_at_call_of 40 (Value.string a1); refine (HA.out _).mono ?_; rintro e w3 ⟨rfl, ⟨n3, rfl⟩⟩))
                go_quiet (fail)
                go_wp2
                go_ret
                exact ⟨by rw [HX.out]; rfl, pw_below_drewN (pw_below_drewN HBw.out _) _⟩
        · have hst' : starL a0_2.data.toList = false := by simpa using hst
          have hrest : restL a0_2.data.toList a1.data.toList = (okL a1.data.toList && okL a0_2.data.toList && (V1.toList == U1.toList) && (V2.toList.isEmpty || (V2.toList == U2.toList))) := by
            unfold restL; rw [hst', q1e, q2e, q3e]; rfl
          rw [hrest] at hfit
          have HW := Aside0.mk hfit
          have hno : Aside0 (a0_2.size = 0 ∨ (1 ≤ a0_2.size ∧ ∀ h : a0_2.size - 1 < a0_2.size, (((a0_2[a0_2.size - 1]'h).toNat : Int) == 42) = false)) := ⟨by
            by_cases h1 : 1 ≤ a0_2.size
            · exact .inr ⟨h1, last_not h1 hst'⟩
            · exact .inl (by omega)⟩
          clear hfit q1e q2e q3e hst hst' hrest HF HC HU hu HT
          generalize okL a1.data.toList = o1 at *
          generalize okL a0_2.data.toList = o2 at *
          rcases hno.out with h0 | ⟨h1, hlast⟩
          · have c0 : decide ((0 : Int) < (a0_2.size : Int)) = false := decide_eq_false (by omega)
            have c1 : (a0_2.size : Int) ≤ 0 := by omega
            clear h0 hno
            cases o1
            · go_wp2_with (first | (go_at_call_of 40 (Value.string a1); refine (HA.out _).mono ?_; rintro e w3 ⟨rfl, ⟨n3, rfl⟩⟩) | (go_at_call 40; refine (HB.out _).mono ?_; rintro e w4 ⟨rfl, ⟨n4, rfl⟩⟩))
              go_ret
              exact ⟨by rw [HW.out]; rfl, pw_below_drewN HBw.out _⟩
            · cases o2
              · go_wp2_with (first | (go_at_call_of 40 (Value.string a1); refine (HA.out _).mono ?_; rintro e w3 ⟨rfl, ⟨n3, rfl⟩⟩) | (go_at_call 40; refine (HB.out _).mono ?_; rintro e w4 ⟨rfl, ⟨n4, rfl⟩⟩))
                go_ret
                exact ⟨by rw [HW.out]; rfl, pw_below_drewN HBw.out _⟩
              · by_cases q1 : V1.toList = U1.toList
                · have q1b : (V1.toList == U1.toList) = true := beq_iff_eq.mpr q1
                  by_cases q2 : V2.toList = []
                  · have q2b : V2.toList.isEmpty = true := by rw [q2]; rfl
                    have HX : Aside0 (fitsL a0_2.data.toList a1.data.toList a2 = true) := ⟨by rw [HW.out, q1b, q2b]; rfl⟩
                    clear q1
                    go_wp2_with (first | (go_at_call_of 40 (Value.string a1); refine (HA.out _).mono ?_; rintro e w3 ⟨rfl, ⟨n3, rfl⟩⟩) | (go_at_call 40; refine (HB.out _).mono ?_; rintro e w4 ⟨rfl, ⟨n4, rfl⟩⟩))
                    go_ret
                    exact ⟨by rw [HX.out]; rfl, pw_below_drewN HBw.out _⟩
                  · have q2b : V2.toList.isEmpty = false := by cases hl : V2.toList with
                      | nil => exact absurd hl q2
                      | cons => rfl
                    have HX : Aside0 (fitsL a0_2.data.toList a1.data.toList a2 = (V2.toList == U2.toList)) := ⟨by rw [HW.out, q1b, q2b]; rfl⟩
                    clear q1
                    go_wp2_with (first | (go_at_call_of 40 (Value.string a1); refine (HA.out _).mono ?_; rintro e w3 ⟨rfl, ⟨n3, rfl⟩⟩) | (go_at_call 40; refine (HB.out _).mono ?_; rintro e w4 ⟨rfl, ⟨n4, rfl⟩⟩))
                    go_ret
                    exact ⟨by rw [HX.out]; rfl, pw_below_drewN HBw.out _⟩
                · have q1b : (V1.toList == U1.toList) = false := beq_eq_false_iff_ne.mpr q1
                  have HX : Aside0 (fitsL a0_2.data.toList a1.data.toList a2 = false) := ⟨by rw [HW.out, q1b]; rfl⟩
                  go_wp2_with (first | (go_at_call_of 40 (Value.string a1); refine (HA.out _).mono ?_; rintro e w3 ⟨rfl, ⟨n3, rfl⟩⟩) | (go_at_call 40; refine (HB.out _).mono ?_; rintro e w4 ⟨rfl, ⟨n4, rfl⟩⟩))
                  go_ret
                  exact ⟨by rw [HX.out]; rfl, pw_below_drewN HBw.out _⟩
          · have hsz := HS.out.1
            have c0 : decide ((0 : Int) < (a0_2.size : Int)) = true := decide_eq_true (by omega)
            have c1 : (0 : Int) < (a0_2.size : Int) := by omega
            have c2 : (0 : Int) ≤ (a0_2.size : Int) - 1 := by omega
            have c3 : (a0_2.size : Int) - 1 < (a0_2.size : Int) := by omega
            clear hno
            cases o1
            · go_wp2_with (first | (go_at_call_of 40 (Value.string a1); refine (HA.out _).mono ?_; rintro e w3 ⟨rfl, ⟨n3, rfl⟩⟩) | (go_at_call 40; refine (HB.out _).mono ?_; rintro e w4 ⟨rfl, ⟨n4, rfl⟩⟩))
              go_ret
              exact ⟨by rw [HW.out]; rfl, pw_below_drewN HBw.out _⟩
            · cases o2
              · go_wp2_with (first | (go_at_call_of 40 (Value.string a1); refine (HA.out _).mono ?_; rintro e w3 ⟨rfl, ⟨n3, rfl⟩⟩) | (go_at_call 40; refine (HB.out _).mono ?_; rintro e w4 ⟨rfl, ⟨n4, rfl⟩⟩))
                go_ret
                exact ⟨by rw [HW.out]; rfl, pw_below_drewN HBw.out _⟩
              · by_cases q1 : V1.toList = U1.toList
                · have q1b : (V1.toList == U1.toList) = true := beq_iff_eq.mpr q1
                  by_cases q2 : V2.toList = []
                  · have q2b : V2.toList.isEmpty = true := by rw [q2]; rfl
                    have HX : Aside0 (fitsL a0_2.data.toList a1.data.toList a2 = true) := ⟨by rw [HW.out, q1b, q2b]; rfl⟩
                    clear q1
                    go_wp2_with (first | (go_at_call_of 40 (Value.string a1); refine (HA.out _).mono ?_; rintro e w3 ⟨rfl, ⟨n3, rfl⟩⟩) | (go_at_call 40; refine (HB.out _).mono ?_; rintro e w4 ⟨rfl, ⟨n4, rfl⟩⟩))
                    go_ret
                    exact ⟨by rw [HX.out]; rfl, pw_below_drewN HBw.out _⟩
                  · have q2b : V2.toList.isEmpty = false := by cases hl : V2.toList with
                      | nil => exact absurd hl q2
                      | cons => rfl
                    have HX : Aside0 (fitsL a0_2.data.toList a1.data.toList a2 = (V2.toList == U2.toList)) := ⟨by rw [HW.out, q1b, q2b]; rfl⟩
                    clear q1
                    go_wp2_with (first | (go_at_call_of 40 (Value.string a1); refine (HA.out _).mono ?_; rintro e w3 ⟨rfl, ⟨n3, rfl⟩⟩) | (go_at_call 40; refine (HB.out _).mono ?_; rintro e w4 ⟨rfl, ⟨n4, rfl⟩⟩))
                    go_ret
                    exact ⟨by rw [HX.out]; rfl, pw_below_drewN HBw.out _⟩
                · have q1b : (V1.toList == U1.toList) = false := beq_eq_false_iff_ne.mpr q1
                  have HX : Aside0 (fitsL a0_2.data.toList a1.data.toList a2 = false) := ⟨by rw [HW.out, q1b]; rfl⟩
                  go_wp2_with (first | (go_at_call_of 40 (Value.string a1); refine (HA.out _).mono ?_; rintro e w3 ⟨rfl, ⟨n3, rfl⟩⟩) | (go_at_call 40; refine (HB.out _).mono ?_; rintro e w4 ⟨rfl, ⟨n4, rfl⟩⟩))
                  go_ret
                  exact ⟨by rw [HX.out]; rfl, pw_below_drewN HBw.out _⟩
      · have hfit := HF.out
        have HW : Aside0 (fitsL a0_2.data.toList a1.data.toList a2 = true) := ⟨by rw [hfit]; rfl⟩
        clear hfit HF
        go_wp2
        go_ret
        exact ⟨by rw [HW.out]; rfl, HBw.out⟩
  · rw [if_neg hs] at h; cases h
end Go.Proofs.YtajndnaeknfogaaDoor.Q
