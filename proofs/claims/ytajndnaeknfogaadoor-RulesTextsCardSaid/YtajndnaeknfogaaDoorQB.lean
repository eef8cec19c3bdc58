/- The contracts of several small Go functions, printed one by one by this session's own program wip/gprint.py and put together by wip/merge.py. -/
import Derived.Test.YtajndnaeknfogaaDoorQ0
namespace Go.Proofs.YtajndnaeknfogaaDoor.Q
open Go.RowKit Go.Proofs.YtajndnaeknfogaaDoorW.PrintWords Go.Proofs.YtajndnaeknfogaaDoorW.PrintLast Go.Proofs.YtajndnaeknfogaaDoorW.PrintMore
attribute [local go_sem] max2_int min2_int max_two min_two max_three min_three max_four min_four   -- for this text's walks alone
set_option linter.unusedVariables false
set_option linter.unusedSimpArgs false

/-! ### tidewaterref05_User: function 58 -/
def tidewaterref05_User.l0 : Nat → ByteArray → Int → Option (Bool)
  | 0, _, _ => none
  | k + 1, x0, x3 => if x3 < (x0.size : Int) then (if 0 ≤ x3 then (if (bt x0 x3) ≥ 97 then (if ((bt x0 x3) ≤ 122) then (tidewaterref05_User.l0 k x0 (wrap64 (x3 + 1))) else (if (bt x0 x3) ≥ 48 then (if ((bt x0 x3) ≤ 57) then (tidewaterref05_User.l0 k x0 (wrap64 (x3 + 1))) else (some false)) else (some false))) else (if (bt x0 x3) ≥ 48 then (if ((bt x0 x3) ≤ 57) then (tidewaterref05_User.l0 k x0 (wrap64 (x3 + 1))) else (some false)) else (some false))) else (none)) else (if (x0.size : Int) ≥ 1 then (some (decide ((x0.size : Int) ≤ 16))) else (some false))
def tidewaterref05_User.f (k : Nat) (a0 : ByteArray) : Option (Bool) := tidewaterref05_User.l0 k a0 0
theorem tidewaterref05_User.mono_l : ∀ k, (∀ y0 y1, LeO (tidewaterref05_User.l0 k y0 y1) (tidewaterref05_User.l0 (k + 1) y0 y1))
  | 0 => fun _ _ r h => by simp [tidewaterref05_User.l0] at h
  | k + 1 => by
    have ih0 := tidewaterref05_User.mono_l k
    · intro y0 y1
      unfold tidewaterref05_User.l0
      repeat' first
      | (with_reducible exact ih0 _ _)
      | (with_reducible exact LeO.refl _)
      | (with_reducible exact LeO.none _)
      | (with_reducible refine LeO.ite ?_ ?_)
      | (with_reducible refine LeO.bind ?_ (fun _ => ?_))
      | exact ih0 _ _
      | exact LeO.none _
      | refine LeO.ite ?_ ?_
      | refine LeO.bind ?_ (fun _ => ?_)
theorem tidewaterref05_User.mono : ∀ a0 k, LeO (tidewaterref05_User.f k a0) (tidewaterref05_User.f (k + 1) a0) := by
  intro a0 k
  have ih0 := tidewaterref05_User.mono_l k
  unfold tidewaterref05_User.f
  repeat' first
      | (with_reducible exact ih0 _ _)
      | (with_reducible exact LeO.refl _)
      | (with_reducible exact LeO.none _)
      | (with_reducible refine LeO.ite ?_ ?_)
      | (with_reducible refine LeO.bind ?_ (fun _ => ?_))
      | exact ih0 _ _
      | exact LeO.none _
      | refine LeO.ite ?_ ?_
      | refine LeO.bind ?_ (fun _ => ?_)
set_option maxHeartbeats 8000000 in
set_option maxRecDepth 100000 in
theorem tidewaterref05_User.calls (k : Nat) (a0 : ByteArray) (r : Bool) (w : World) (h : tidewaterref05_User.f k a0 = some r) :
    Calls Tryd.prog 58 #[.string a0] w fun e w' => e = .returned (.bool r) ∧ Drawn0 w w' := by
  have H : (tidewaterref05_User.l0 k a0 0) = some r := h
  clear h
  have H' := Aside0.mk H
  clear H
  go_enter Tryd.func58, Tryd.ntmps58
  go_wp2
  go_loopg [3] k (fun kq v3 w' => ∃ (x3_1 : Int), v3 = .int .i64 x3_1 ∧ Aside0 (tidewaterref05_User.l0 kq a0 x3_1 = some r) ∧ Aside0 (kq ≤ k) ∧ Drawn0 w w')
  case atStart => exact ⟨(0), (by first | rfl | (simp; done) | (simp [*]; done)), H', ⟨Nat.le_refl _⟩, by repeat (first | exact Drawn0.refl _ | apply Drawn0.step)⟩
  case round =>
    clear H'
    obtain ⟨x3_1, rfl, HA, HK1, ⟨m1, rfl⟩⟩ := hrel
    cases gk with
    | zero => exact absurd HA.out (by simp [tidewaterref05_User.l0])
    | succ k1 =>
      have H := HA.out
      clear HA
      simp only [tidewaterref05_User.l0] at H
      by_cases c2 : x3_1 < (a0.size : Int)
      · rw [if_pos c2] at H
        have c2b0 : decide (x3_1 < (a0.size : Int)) = true := decide_eq_true c2
        clear c2
        by_cases c3 : 0 ≤ x3_1
        · rw [if_pos c3] at H
          have c3b0 : decide (0 ≤ x3_1) = true := decide_eq_true c3
          clear c3
          by_cases c5 : (bt a0 x3_1) ≥ 97
          · rw [if_pos c5] at H
            have c5b0 : decide (97 ≤ (bt a0 x3_1)) = true := decide_eq_true c5
            clear c5
            by_cases c7 : ((bt a0 x3_1) ≤ 122)
            · rw [if_pos c7] at H
              have c7b0 : decide ((bt a0 x3_1) ≤ 122) = true := decide_eq_true c7
              clear c7
              have H' := Aside0.mk H
              clear H
              have p4 : 0 ≤ (x3_1 : Int) := of_decide_eq_true (by first | (with_reducible assumption) | assumption)
              have q4 : x3_1 < (a0.size : Int) := of_decide_eq_true (by first | (with_reducible assumption) | assumption)
              have hx4 := bt_at a0 x3_1
              replace p4 := eq_true p4
              replace q4 := eq_true q4
              have p6 : 0 ≤ (x3_1 : Int) := of_decide_eq_true (by first | (with_reducible assumption) | assumption)
              have q6 : x3_1 < (a0.size : Int) := of_decide_eq_true (by first | (with_reducible assumption) | assumption)
              have hx6 := bt_at a0 x3_1
              replace p6 := eq_true p6
              replace q6 := eq_true q6
              go_wp2
              go_roundg k1
              case measure => have := HK1.out; omega
              case rel => exact ⟨(wrap64 (x3_1 + 1)), (by first | rfl | (simp; done) | (simp [*]; done)), H', ⟨by have := HK1.out; omega⟩, by repeat (first | exact Drawn0.refl _ | apply Drawn0.step)⟩
            · rw [if_neg c7] at H
              have c7b0 : decide ((bt a0 x3_1) ≤ 122) = false := decide_eq_false c7
              clear c7
              by_cases c9 : (bt a0 x3_1) ≥ 48
              · rw [if_pos c9] at H
                have c9b0 : decide (48 ≤ (bt a0 x3_1)) = true := decide_eq_true c9
                clear c9
                by_cases c11 : ((bt a0 x3_1) ≤ 57)
                · rw [if_pos c11] at H
                  have c11b0 : decide ((bt a0 x3_1) ≤ 57) = true := decide_eq_true c11
                  clear c11
                  have H' := Aside0.mk H
                  clear H
                  have p4 : 0 ≤ (x3_1 : Int) := of_decide_eq_true (by first | (with_reducible assumption) | assumption)
                  have q4 : x3_1 < (a0.size : Int) := of_decide_eq_true (by first | (with_reducible assumption) | assumption)
                  have hx4 := bt_at a0 x3_1
                  replace p4 := eq_true p4
                  replace q4 := eq_true q4
                  have p6 : 0 ≤ (x3_1 : Int) := of_decide_eq_true (by first | (with_reducible assumption) | assumption)
                  have q6 : x3_1 < (a0.size : Int) := of_decide_eq_true (by first | (with_reducible assumption) | assumption)
                  have hx6 := bt_at a0 x3_1
                  replace p6 := eq_true p6
                  replace q6 := eq_true q6
                  have p8 : 0 ≤ (x3_1 : Int) := of_decide_eq_true (by first | (with_reducible assumption) | assumption)
                  have q8 : x3_1 < (a0.size : Int) := of_decide_eq_true (by first | (with_reducible assumption) | assumption)
                  have hx8 := bt_at a0 x3_1
                  replace p8 := eq_true p8
                  replace q8 := eq_true q8
                  have p10 : 0 ≤ (x3_1 : Int) := of_decide_eq_true (by first | (with_reducible assumption) | assumption)
                  have q10 : x3_1 < (a0.size : Int) := of_decide_eq_true (by first | (with_reducible assumption) | assumption)
                  have hx10 := bt_at a0 x3_1
                  replace p10 := eq_true p10
                  replace q10 := eq_true q10
                  go_wp2
                  go_roundg k1
                  case measure => have := HK1.out; omega
                  case rel => exact ⟨(wrap64 (x3_1 + 1)), (by first | rfl | (simp; done) | (simp [*]; done)), H', ⟨by have := HK1.out; omega⟩, by repeat (first | exact Drawn0.refl _ | apply Drawn0.step)⟩
                · rw [if_neg c11] at H
                  have c11b0 : decide ((bt a0 x3_1) ≤ 57) = false := decide_eq_false c11
                  clear c11
                  obtain rfl := Option.some.inj H
                  have p4 : 0 ≤ (x3_1 : Int) := of_decide_eq_true (by first | (with_reducible assumption) | assumption)
                  have q4 : x3_1 < (a0.size : Int) := of_decide_eq_true (by first | (with_reducible assumption) | assumption)
                  have hx4 := bt_at a0 x3_1
                  replace p4 := eq_true p4
                  replace q4 := eq_true q4
                  have p6 : 0 ≤ (x3_1 : Int) := of_decide_eq_true (by first | (with_reducible assumption) | assumption)
                  have q6 : x3_1 < (a0.size : Int) := of_decide_eq_true (by first | (with_reducible assumption) | assumption)
                  have hx6 := bt_at a0 x3_1
                  replace p6 := eq_true p6
                  replace q6 := eq_true q6
                  have p8 : 0 ≤ (x3_1 : Int) := of_decide_eq_true (by first | (with_reducible assumption) | assumption)
                  have q8 : x3_1 < (a0.size : Int) := of_decide_eq_true (by first | (with_reducible assumption) | assumption)
                  have hx8 := bt_at a0 x3_1
                  replace p8 := eq_true p8
                  replace q8 := eq_true q8
                  have p10 : 0 ≤ (x3_1 : Int) := of_decide_eq_true (by first | (with_reducible assumption) | assumption)
                  have q10 : x3_1 < (a0.size : Int) := of_decide_eq_true (by first | (with_reducible assumption) | assumption)
                  have hx10 := bt_at a0 x3_1
                  replace p10 := eq_true p10
                  replace q10 := eq_true q10
                  go_wp2
                  go_ret
                  exact ⟨by first | rfl | (simp; done) | (simp [*]; done), by repeat (first | exact Drawn0.refl _ | apply Drawn0.step)⟩
              · rw [if_neg c9] at H
                have c9b0 : decide (48 ≤ (bt a0 x3_1)) = false := decide_eq_false c9
                clear c9
                obtain rfl := Option.some.inj H
                have p4 : 0 ≤ (x3_1 : Int) := of_decide_eq_true (by first | (with_reducible assumption) | assumption)
                have q4 : x3_1 < (a0.size : Int) := of_decide_eq_true (by first | (with_reducible assumption) | assumption)
                have hx4 := bt_at a0 x3_1
                replace p4 := eq_true p4
                replace q4 := eq_true q4
                have p6 : 0 ≤ (x3_1 : Int) := of_decide_eq_true (by first | (with_reducible assumption) | assumption)
                have q6 : x3_1 < (a0.size : Int) := of_decide_eq_true (by first | (with_reducible assumption) | assumption)
                have hx6 := bt_at a0 x3_1
                replace p6 := eq_true p6
                replace q6 := eq_true q6
                have p8 : 0 ≤ (x3_1 : Int) := of_decide_eq_true (by first | (with_reducible assumption) | assumption)
                have q8 : x3_1 < (a0.size : Int) := of_decide_eq_true (by first | (with_reducible assumption) | assumption)
                have hx8 := bt_at a0 x3_1
                replace p8 := eq_true p8
                replace q8 := eq_true q8
                go_wp2
                go_ret
                exact ⟨by first | rfl | (simp; done) | (simp [*]; done), by repeat (first | exact Drawn0.refl _ | apply Drawn0.step)⟩
          · rw [if_neg c5] at H
            have c5b0 : decide (97 ≤ (bt a0 x3_1)) = false := decide_eq_false c5
            clear c5
            by_cases c13 : (bt a0 x3_1) ≥ 48
            · rw [if_pos c13] at H
              have c13b0 : decide (48 ≤ (bt a0 x3_1)) = true := decide_eq_true c13
              clear c13
              by_cases c15 : ((bt a0 x3_1) ≤ 57)
              · rw [if_pos c15] at H
                have c15b0 : decide ((bt a0 x3_1) ≤ 57) = true := decide_eq_true c15
                clear c15
                have H' := Aside0.mk H
                clear H
                have p4 : 0 ≤ (x3_1 : Int) := of_decide_eq_true (by first | (with_reducible assumption) | assumption)
                have q4 : x3_1 < (a0.size : Int) := of_decide_eq_true (by first | (with_reducible assumption) | assumption)
                have hx4 := bt_at a0 x3_1
                replace p4 := eq_true p4
                replace q4 := eq_true q4
                have p12 : 0 ≤ (x3_1 : Int) := of_decide_eq_true (by first | (with_reducible assumption) | assumption)
                have q12 : x3_1 < (a0.size : Int) := of_decide_eq_true (by first | (with_reducible assumption) | assumption)
                have hx12 := bt_at a0 x3_1
                replace p12 := eq_true p12
                replace q12 := eq_true q12
                have p14 : 0 ≤ (x3_1 : Int) := of_decide_eq_true (by first | (with_reducible assumption) | assumption)
                have q14 : x3_1 < (a0.size : Int) := of_decide_eq_true (by first | (with_reducible assumption) | assumption)
                have hx14 := bt_at a0 x3_1
                replace p14 := eq_true p14
                replace q14 := eq_true q14
                go_wp2
                go_roundg k1
                case measure => have := HK1.out; omega
                case rel => exact ⟨(wrap64 (x3_1 + 1)), (by first | rfl | (simp; done) | (simp [*]; done)), H', ⟨by have := HK1.out; omega⟩, by repeat (first | exact Drawn0.refl _ | apply Drawn0.step)⟩
              · rw [if_neg c15] at H
                have c15b0 : decide ((bt a0 x3_1) ≤ 57) = false := decide_eq_false c15
                clear c15
                obtain rfl := Option.some.inj H
                have p4 : 0 ≤ (x3_1 : Int) := of_decide_eq_true (by first | (with_reducible assumption) | assumption)
                have q4 : x3_1 < (a0.size : Int) := of_decide_eq_true (by first | (with_reducible assumption) | assumption)
                have hx4 := bt_at a0 x3_1
                replace p4 := eq_true p4
                replace q4 := eq_true q4
                have p12 : 0 ≤ (x3_1 : Int) := of_decide_eq_true (by first | (with_reducible assumption) | assumption)
                have q12 : x3_1 < (a0.size : Int) := of_decide_eq_true (by first | (with_reducible assumption) | assumption)
                have hx12 := bt_at a0 x3_1
                replace p12 := eq_true p12
                replace q12 := eq_true q12
                have p14 : 0 ≤ (x3_1 : Int) := of_decide_eq_true (by first | (with_reducible assumption) | assumption)
                have q14 : x3_1 < (a0.size : Int) := of_decide_eq_true (by first | (with_reducible assumption) | assumption)
                have hx14 := bt_at a0 x3_1
                replace p14 := eq_true p14
                replace q14 := eq_true q14
                go_wp2
                go_ret
                exact ⟨by first | rfl | (simp; done) | (simp [*]; done), by repeat (first | exact Drawn0.refl _ | apply Drawn0.step)⟩
            · rw [if_neg c13] at H
              have c13b0 : decide (48 ≤ (bt a0 x3_1)) = false := decide_eq_false c13
              clear c13
              obtain rfl := Option.some.inj H
              have p4 : 0 ≤ (x3_1 : Int) := of_decide_eq_true (by first | (with_reducible assumption) | assumption)
              have q4 : x3_1 < (a0.size : Int) := of_decide_eq_true (by first | (with_reducible assumption) | assumption)
              have hx4 := bt_at a0 x3_1
              replace p4 := eq_true p4
              replace q4 := eq_true q4
              have p12 : 0 ≤ (x3_1 : Int) := of_decide_eq_true (by first | (with_reducible assumption) | assumption)
              have q12 : x3_1 < (a0.size : Int) := of_decide_eq_true (by first | (with_reducible assumption) | assumption)
              have hx12 := bt_at a0 x3_1
              replace p12 := eq_true p12
              replace q12 := eq_true q12
              go_wp2
              go_ret
              exact ⟨by first | rfl | (simp; done) | (simp [*]; done), by repeat (first | exact Drawn0.refl _ | apply Drawn0.step)⟩
        · rw [if_neg c3] at H
          exact absurd H (by simp)
      · rw [if_neg c2] at H
        have c2b0 : decide (x3_1 < (a0.size : Int)) = false := decide_eq_false c2
        clear c2
        by_cases c16 : (a0.size : Int) ≥ 1
        · rw [if_pos c16] at H
          have c16b0 : decide (1 ≤ (a0.size : Int)) = true := decide_eq_true c16
          have c16b1 : decide (1 ≤ a0.size) = true := decide_eq_true (by omega)
          clear c16
          obtain rfl := Option.some.inj H
          go_wp2
          go_ret
          exact ⟨by first | rfl | (simp; done) | (simp [*]; done), by repeat (first | exact Drawn0.refl _ | apply Drawn0.step)⟩
        · rw [if_neg c16] at H
          have c16b0 : decide (1 ≤ (a0.size : Int)) = false := decide_eq_false c16
          have c16b1 : decide (1 ≤ a0.size) = false := decide_eq_false (by omega)
          clear c16
          obtain rfl := Option.some.inj H
          go_wp2
          go_ret
          exact ⟨by first | rfl | (simp; done) | (simp [*]; done), by repeat (first | exact Drawn0.refl _ | apply Drawn0.step)⟩

end Go.Proofs.YtajndnaeknfogaaDoor.Q
namespace Go.Proofs.YtajndnaeknfogaaDoor.Q
open Go.RowKit Go.Proofs.YtajndnaeknfogaaDoorW.PrintWords Go.Proofs.YtajndnaeknfogaaDoorW.PrintLast Go.Proofs.YtajndnaeknfogaaDoorW.PrintMore
attribute [local go_sem] max2_int min2_int max_two min_two max_three min_three max_four min_four   -- for this text's walks alone
set_option linter.unusedVariables false
set_option linter.unusedSimpArgs false

/-! ### tidewaterref05_Address: function 40 -/
def tidewaterref05_Address.l0 : Nat → ByteArray → Int → Option (ByteArray × ByteArray × Bool)
  | 0, _, _ => none
  | k + 1, x0, x5 => if x5 < (x0.size : Int) then (if 0 ≤ x5 then (if (bt x0 x5) = 47 then (if x5 ≤ (x0.size : Int) then (if 0 ≤ (wrap64 (x5 + 1)) then (if (wrap64 (x5 + 1)) ≤ (x0.size : Int) then ((tidewaterref05_User.f k (x0.extract 0 (x5 : Int).toNat)).bind fun t213 => (if t213 = true then ((tidewaterref05_User.f k (x0.extract ((wrap64 (x5 + 1)) : Int).toNat x0.size)).bind fun t214 => (some (x0.extract 0 (x5 : Int).toNat, x0.extract ((wrap64 (x5 + 1)) : Int).toNat x0.size, t214))) else (some (x0.extract 0 (x5 : Int).toNat, x0.extract ((wrap64 (x5 + 1)) : Int).toNat x0.size, false)))) else (none)) else (none)) else (none)) else (tidewaterref05_Address.l0 k x0 (wrap64 (x5 + 1)))) else (none)) else ((tidewaterref05_User.f k x0).bind fun t212 => (some (x0, (⟨#[]⟩ : ByteArray), t212)))
def tidewaterref05_Address.f (k : Nat) (a0 : ByteArray) : Option (ByteArray × ByteArray × Bool) := tidewaterref05_Address.l0 k a0 0
theorem tidewaterref05_Address.mono_l : ∀ k, (∀ y0 y1, LeO (tidewaterref05_Address.l0 k y0 y1) (tidewaterref05_Address.l0 (k + 1) y0 y1))
  | 0 => fun _ _ r h => by simp [tidewaterref05_Address.l0] at h
  | k + 1 => by
    have ih0 := tidewaterref05_Address.mono_l k
    · intro y0 y1
      unfold tidewaterref05_Address.l0
      repeat' first
      | (with_reducible exact ih0 _ _)
      | (with_reducible exact tidewaterref05_User.mono _ _)
      | (with_reducible exact LeO.refl _)
      | (with_reducible exact LeO.none _)
      | (with_reducible refine LeO.ite ?_ ?_)
      | (with_reducible refine LeO.bind ?_ (fun _ => ?_))
      | exact ih0 _ _
      | exact tidewaterref05_User.mono _ _
      | exact LeO.none _
      | refine LeO.ite ?_ ?_
      | refine LeO.bind ?_ (fun _ => ?_)
theorem tidewaterref05_Address.mono : ∀ a0 k, LeO (tidewaterref05_Address.f k a0) (tidewaterref05_Address.f (k + 1) a0) := by
  intro a0 k
  have ih0 := tidewaterref05_Address.mono_l k
  unfold tidewaterref05_Address.f
  repeat' first
      | (with_reducible exact ih0 _ _)
      | (with_reducible exact tidewaterref05_User.mono _ _)
      | (with_reducible exact LeO.refl _)
      | (with_reducible exact LeO.none _)
      | (with_reducible refine LeO.ite ?_ ?_)
      | (with_reducible refine LeO.bind ?_ (fun _ => ?_))
      | exact ih0 _ _
      | exact tidewaterref05_User.mono _ _
      | exact LeO.none _
      | refine LeO.ite ?_ ?_
      | refine LeO.bind ?_ (fun _ => ?_)
set_option maxHeartbeats 8000000 in
set_option maxRecDepth 100000 in
theorem tidewaterref05_Address.calls (k : Nat) (a0 : ByteArray) (r1 : ByteArray) (r2 : ByteArray) (r3 : Bool) (w : World) (h : tidewaterref05_Address.f k a0 = some (r1, r2, r3)) :
    Calls Tryd.prog 40 #[.string a0] w fun e w' => e = .returned (.tuple #[.string r1, .string r2, .bool r3]) ∧ Drawn0 w w' := by
  have H : (tidewaterref05_Address.l0 k a0 0) = some (r1, r2, r3) := h
  clear h
  have H' := Aside0.mk H
  clear H
  go_enter Tryd.func40, Tryd.ntmps40
  go_wp2
  repeat (go_quiet (fail); try go_wp2)
  go_loopg [5] k (fun kq v5 w' => ∃ (x5_1 : Int), v5 = .int .i64 x5_1 ∧ Aside0 (tidewaterref05_Address.l0 kq a0 x5_1 = some (r1, r2, r3)) ∧ Aside0 (kq ≤ k) ∧ Drawn0 w w')
  case atStart => exact ⟨(0), (by first | rfl | (simp; done) | (simp [*]; done)), H', ⟨Nat.le_refl _⟩, by repeat (first | exact Drawn0.refl _ | apply Drawn0.step)⟩
  case round =>
    clear H'
    obtain ⟨x5_1, rfl, HA, HK1, ⟨m1, rfl⟩⟩ := hrel
    cases gk with
    | zero => exact absurd HA.out (by simp [tidewaterref05_Address.l0])
    | succ k1 =>
      have H := HA.out
      clear HA
      simp only [tidewaterref05_Address.l0] at H
      by_cases c2 : x5_1 < (a0.size : Int)
      · rw [if_pos c2] at H
        have c2b0 : decide (x5_1 < (a0.size : Int)) = true := decide_eq_true c2
        clear c2
        by_cases c3 : 0 ≤ x5_1
        · rw [if_pos c3] at H
          have c3b0 : decide (0 ≤ x5_1) = true := decide_eq_true c3
          clear c3
          by_cases c5 : (bt a0 x5_1) = 47
          · rw [if_pos c5] at H
            have c5b0 : ((bt a0 x5_1) == 47) = true := beq_iff_eq.mpr c5
            have c5b1 : ((bt a0 x5_1) != 47) = false := bne_eq_false_iff_eq.mpr c5
            clear c5
            have c6b0 := eq_true (of_decide_eq_true (by first | (with_reducible assumption) | assumption) : 0 ≤ x5_1)
            by_cases c7 : x5_1 ≤ (a0.size : Int)
            · rw [if_pos c7] at H
              have c7b0 := eq_true c7
              have c7b1 : decide (x5_1 ≤ (a0.size : Int)) = true := decide_eq_true c7
              clear c7
              obtain ⟨ji8, hji8⟩ : ∃ j_ : Int, (wrap64 (x5_1 + 1)) = j_ := ⟨_, rfl⟩
              replace H : (if 0 ≤ (ji8) then (if (ji8) ≤ (a0.size : Int) then ((tidewaterref05_User.f k1 (a0.extract 0 (x5_1 : Int).toNat)).bind fun t213 => (if t213 = true then ((tidewaterref05_User.f k1 (a0.extract ((ji8) : Int).toNat a0.size)).bind fun t214 => (some (a0.extract 0 (x5_1 : Int).toNat, a0.extract ((ji8) : Int).toNat a0.size, t214))) else (some (a0.extract 0 (x5_1 : Int).toNat, a0.extract ((ji8) : Int).toNat a0.size, false)))) else (none)) else (none)) = some (r1, r2, r3) := by first | (rw [hji8] at H; exact H) | (simp only [hji8] at H ⊢; exact H)
              have hji8w : (IntKind.i64.wrap (x5_1 + 1)) = ji8 := (i64_w _).trans hji8
              by_cases c9 : 0 ≤ (ji8)
              · rw [if_pos c9] at H
                have c9b0 := eq_true c9
                have c9b1 : decide (0 ≤ (ji8)) = true := decide_eq_true c9
                clear c9
                by_cases c10 : (ji8) ≤ (a0.size : Int)
                · rw [if_pos c10] at H
                  have c10b0 := eq_true c10
                  have c10b1 : decide ((ji8) ≤ (a0.size : Int)) = true := decide_eq_true c10
                  clear c10
                  have c11b0 := eq_true (of_decide_eq_true (by first | (with_reducible assumption) | assumption) : 0 ≤ x5_1)
                  have c12b0 := eq_true (of_decide_eq_true (by first | (with_reducible assumption) | assumption) : x5_1 ≤ (a0.size : Int))
                  replace H := Option.bind_eq_some_iff.mp H
                  obtain ⟨t213, A130, H⟩ := H
                  replace H : (if t213 = true then ((tidewaterref05_User.f k1 (a0.extract ((ji8) : Int).toNat a0.size)).bind fun t214 => (some (a0.extract 0 (x5_1 : Int).toNat, a0.extract ((ji8) : Int).toNat a0.size, t214))) else (some (a0.extract 0 (x5_1 : Int).toNat, a0.extract ((ji8) : Int).toNat a0.size, false))) = some (r1, r2, r3) := H
                  have A13 := Aside0.mk A130
                  clear A130
                  by_cases c14 : t213 = true
                  · subst c14
                    have H1 : ((tidewaterref05_User.f k1 (a0.extract ((ji8) : Int).toNat a0.size)).bind fun t214 => (some (a0.extract 0 (x5_1 : Int).toNat, a0.extract ((ji8) : Int).toNat a0.size, t214))) = some (r1, r2, r3) := by rw [if_pos rfl] at H; exact H
                    clear H
                    have H := H1
                    clear H1
                    have c15b0 := eq_true (of_decide_eq_true (by first | (with_reducible assumption) | assumption) : 0 ≤ (ji8))
                    have c16b0 := eq_true (of_decide_eq_true (by first | (with_reducible assumption) | assumption) : (ji8) ≤ (a0.size : Int))
                    replace H := Option.bind_eq_some_iff.mp H
                    obtain ⟨t214, A170, H⟩ := H
                    replace H : (some (a0.extract 0 (x5_1 : Int).toNat, a0.extract ((ji8) : Int).toNat a0.size, t214)) = some (r1, r2, r3) := H
                    have A17 := Aside0.mk A170
                    clear A170
                    simp only [Option.some.injEq, Prod.mk.injEq] at H
                    obtain ⟨rfl, rfl, rfl⟩ := H
                    have p4 : 0 ≤ (x5_1 : Int) := of_decide_eq_true (by first | (with_reducible assumption) | assumption)
                    have q4 : x5_1 < (a0.size : Int) := of_decide_eq_true (by first | (with_reducible assumption) | assumption)
                    have hx4 := bt_at a0 x5_1
                    replace p4 := eq_true p4
                    replace q4 := eq_true q4
                    go_wp2_with (first | (go_at_call 58; (with_reducible refine (tidewaterref05_User.calls k1 (a0.extract 0 (x5_1 : Int).toNat) true _ A13.out).mono ?_); rintro e w' ⟨rfl, ⟨nd, rfl⟩⟩; (try first | exact ⟨rfl, _, World.drewN_drewN _ _ _⟩ | exact ⟨rfl, _, Eq.trans (World.drewN_drewN _ _ _) (congrArg (World.drewN _) (Nat.add_assoc _ _ _))⟩)) | (go_at_call 58; (with_reducible refine (tidewaterref05_User.calls k1 (a0.extract ((ji8) : Int).toNat a0.size) t214 _ A17.out).mono ?_); rintro e w' ⟨rfl, ⟨nd, rfl⟩⟩; (try first | exact ⟨rfl, _, World.drewN_drewN _ _ _⟩ | exact ⟨rfl, _, Eq.trans (World.drewN_drewN _ _ _) (congrArg (World.drewN _) (Nat.add_assoc _ _ _))⟩)))
                    repeat (go_quiet (first | (go_at_call 58; (with_reducible refine (tidewaterref05_User.calls k1 (a0.extract 0 (x5_1 : Int).toNat) true _ A13.out).mono ?_); rintro e w' ⟨rfl, ⟨nd, rfl⟩⟩; (try first | exact ⟨rfl, _, World.drewN_drewN _ _ _⟩ | exact ⟨rfl, _, Eq.trans (World.drewN_drewN _ _ _) (congrArg (World.drewN _) (Nat.add_assoc _ _ _))⟩)) | (go_at_call 58; (with_reducible refine (tidewaterref05_User.calls k1 (a0.extract ((ji8) : Int).toNat a0.size) t214 _ A17.out).mono ?_); rintro e w' ⟨rfl, ⟨nd, rfl⟩⟩; (try first | exact ⟨rfl, _, World.drewN_drewN _ _ _⟩ | exact ⟨rfl, _, Eq.trans (World.drewN_drewN _ _ _) (congrArg (World.drewN _) (Nat.add_assoc _ _ _))⟩))); try go_wp2_with (first | (go_at_call 58; (with_reducible refine (tidewaterref05_User.calls k1 (a0.extract 0 (x5_1 : Int).toNat) true _ A13.out).mono ?_); rintro e w' ⟨rfl, ⟨nd, rfl⟩⟩; (try first | exact ⟨rfl, _, World.drewN_drewN _ _ _⟩ | exact ⟨rfl, _, Eq.trans (World.drewN_drewN _ _ _) (congrArg (World.drewN _) (Nat.add_assoc _ _ _))⟩)) | (go_at_call 58; (with_reducible refine (tidewaterref05_User.calls k1 (a0.extract ((ji8) : Int).toNat a0.size) t214 _ A17.out).mono ?_); rintro e w' ⟨rfl, ⟨nd, rfl⟩⟩; (try first | exact ⟨rfl, _, World.drewN_drewN _ _ _⟩ | exact ⟨rfl, _, Eq.trans (World.drewN_drewN _ _ _) (congrArg (World.drewN _) (Nat.add_assoc _ _ _))⟩))))
                    go_ret3
                    exact ⟨by first | rfl | (simp; done) | (simp only [← hji8] <;> (first | rfl | simp)) | (simp [*]; done), by repeat (first | exact Drawn0.refl _ | apply Drawn0.step)⟩
                  · replace c14 := Bool.eq_false_iff.mpr c14
                    subst c14
                    have H1 : (some (a0.extract 0 (x5_1 : Int).toNat, a0.extract ((ji8) : Int).toNat a0.size, false)) = some (r1, r2, r3) := by rw [if_neg (show ¬ (false = true) by decide)] at H; exact H
                    clear H
                    have H := H1
                    clear H1
                    simp only [Option.some.injEq, Prod.mk.injEq] at H
                    obtain ⟨rfl, rfl, rfl⟩ := H
                    have p4 : 0 ≤ (x5_1 : Int) := of_decide_eq_true (by first | (with_reducible assumption) | assumption)
                    have q4 : x5_1 < (a0.size : Int) := of_decide_eq_true (by first | (with_reducible assumption) | assumption)
                    have hx4 := bt_at a0 x5_1
                    replace p4 := eq_true p4
                    replace q4 := eq_true q4
                    go_wp2_with (first | (go_at_call 58; (with_reducible refine (tidewaterref05_User.calls k1 (a0.extract 0 (x5_1 : Int).toNat) false _ A13.out).mono ?_); rintro e w' ⟨rfl, ⟨nd, rfl⟩⟩; (try first | exact ⟨rfl, _, World.drewN_drewN _ _ _⟩ | exact ⟨rfl, _, Eq.trans (World.drewN_drewN _ _ _) (congrArg (World.drewN _) (Nat.add_assoc _ _ _))⟩)))
                    repeat (go_quiet (first | (go_at_call 58; (with_reducible refine (tidewaterref05_User.calls k1 (a0.extract 0 (x5_1 : Int).toNat) false _ A13.out).mono ?_); rintro e w' ⟨rfl, ⟨nd, rfl⟩⟩; (try first | exact ⟨rfl, _, World.drewN_drewN _ _ _⟩ | exact ⟨rfl, _, Eq.trans (World.drewN_drewN _ _ _) (congrArg (World.drewN _) (Nat.add_assoc _ _ _))⟩))); try go_wp2_with (first | (go_at_call 58; (with_reducible refine (tidewaterref05_User.calls k1 (a0.extract 0 (x5_1 : Int).toNat) false _ A13.out).mono ?_); rintro e w' ⟨rfl, ⟨nd, rfl⟩⟩; (try first | exact ⟨rfl, _, World.drewN_drewN _ _ _⟩ | exact ⟨rfl, _, Eq.trans (World.drewN_drewN _ _ _) (congrArg (World.drewN _) (Nat.add_assoc _ _ _))⟩))))
                    go_ret3
                    exact ⟨by first | rfl | (simp; done) | (simp only [← hji8] <;> (first | rfl | simp)) | (simp [*]; done), by repeat (first | exact Drawn0.refl _ | apply Drawn0.step)⟩
                · rw [if_neg c10] at H
                  exact absurd H (by simp)
              · rw [if_neg c9] at H
                exact absurd H (by simp)
            · rw [if_neg c7] at H
              exact absurd H (by simp)
          · rw [if_neg c5] at H
            have c5b0 : ((bt a0 x5_1) == 47) = false := beq_eq_false_iff_ne.mpr c5
            have c5b1 : ((bt a0 x5_1) != 47) = true := bne_iff_ne.mpr c5
            have H' := Aside0.mk H
            clear H
            have p4 : 0 ≤ (x5_1 : Int) := of_decide_eq_true (by first | (with_reducible assumption) | assumption)
            have q4 : x5_1 < (a0.size : Int) := of_decide_eq_true (by first | (with_reducible assumption) | assumption)
            have hx4 := bt_at a0 x5_1
            replace p4 := eq_true p4
            replace q4 := eq_true q4
            go_wp2
            repeat (go_quiet (fail); try go_wp2)
            go_roundg k1
            case measure => have := HK1.out; omega
            case rel => exact ⟨(wrap64 (x5_1 + 1)), (by first | rfl | (simp; done) | (simp [*]; done)), H', ⟨by have := HK1.out; omega⟩, by repeat (first | exact Drawn0.refl _ | apply Drawn0.step)⟩
        · rw [if_neg c3] at H
          exact absurd H (by simp)
      · rw [if_neg c2] at H
        have c2b0 : decide (x5_1 < (a0.size : Int)) = false := decide_eq_false c2
        clear c2
        replace H := Option.bind_eq_some_iff.mp H
        obtain ⟨t212, A180, H⟩ := H
        replace H : (some (a0, (⟨#[]⟩ : ByteArray), t212)) = some (r1, r2, r3) := H
        have A18 := Aside0.mk A180
        clear A180
        simp only [Option.some.injEq, Prod.mk.injEq] at H
        obtain ⟨rfl, rfl, rfl⟩ := H
        go_wp2_with (first | (go_at_call 58; (with_reducible refine (tidewaterref05_User.calls k1 a0 t212 _ A18.out).mono ?_); rintro e w' ⟨rfl, ⟨nd, rfl⟩⟩; (try first | exact ⟨rfl, _, World.drewN_drewN _ _ _⟩ | exact ⟨rfl, _, Eq.trans (World.drewN_drewN _ _ _) (congrArg (World.drewN _) (Nat.add_assoc _ _ _))⟩)))
        repeat (go_quiet (first | (go_at_call 58; (with_reducible refine (tidewaterref05_User.calls k1 a0 t212 _ A18.out).mono ?_); rintro e w' ⟨rfl, ⟨nd, rfl⟩⟩; (try first | exact ⟨rfl, _, World.drewN_drewN _ _ _⟩ | exact ⟨rfl, _, Eq.trans (World.drewN_drewN _ _ _) (congrArg (World.drewN _) (Nat.add_assoc _ _ _))⟩))); try go_wp2_with (first | (go_at_call 58; (with_reducible refine (tidewaterref05_User.calls k1 a0 t212 _ A18.out).mono ?_); rintro e w' ⟨rfl, ⟨nd, rfl⟩⟩; (try first | exact ⟨rfl, _, World.drewN_drewN _ _ _⟩ | exact ⟨rfl, _, Eq.trans (World.drewN_drewN _ _ _) (congrArg (World.drewN _) (Nat.add_assoc _ _ _))⟩))))
        go_ret3
        exact ⟨by first | rfl | (simp; done) | (simp [*]; done), by repeat (first | exact Drawn0.refl _ | apply Drawn0.step)⟩

end Go.Proofs.YtajndnaeknfogaaDoor.Q
namespace Go.Proofs.YtajndnaeknfogaaDoor.Q
open Go.RowKit Go.Proofs.YtajndnaeknfogaaDoorW.PrintWords Go.Proofs.YtajndnaeknfogaaDoorW.PrintLast Go.Proofs.YtajndnaeknfogaaDoorW.PrintMore
attribute [local go_sem] max2_int min2_int max_two min_two max_three min_three max_four min_four   -- for this text's walks alone
set_option linter.unusedVariables false
set_option linter.unusedSimpArgs false

/-! ### tidewaterref24_kind: function 23 -/
mutual
def tidewaterref24_kind.j0 : Nat → Bool → Int → ByteArray → ByteArray → ByteArray → ByteArray → ByteArray → ByteArray → ByteArray → Int → Int → Bool → List (S142) → Option (Int)
  | 0, _, _, _, _, _, _, _, _, _, _, _, _, _ => none
  | k + 1, x10, x218000, x218001, x218002, x218003, x218004, x218005, x218006, x218007, x218008, x218009, x218010, x218011 => if x10 = true then (some 113) else (if x218000 = 1 then (if x218001.toList = ([] : List UInt8) then (tidewaterref24_kind.j1 k true x218000 x218001 x218002 x218003 x218004 x218005 x218006 x218007 x218008 x218009 x218010 x218011) else (tidewaterref24_kind.j1 k (x218001.toList == ([117, 110, 97, 118, 97, 105, 108, 97, 98, 108, 101] : List UInt8)) x218000 x218001 x218002 x218003 x218004 x218005 x218006 x218007 x218008 x218009 x218010 x218011)) else (some 0))
def tidewaterref24_kind.j1 : Nat → Bool → Int → ByteArray → ByteArray → ByteArray → ByteArray → ByteArray → ByteArray → ByteArray → Int → Int → Bool → List (S142) → Option (Int)
  | 0, _, _, _, _, _, _, _, _, _, _, _, _, _ => none
  | k + 1, x21, x218000, x218001, x218002, x218003, x218004, x218005, x218006, x218007, x218008, x218009, x218010, x218011 => if x21 = true then (some 112) else (if x218001.toList = ([115, 117, 98, 115, 99, 114, 105, 98, 101] : List UInt8) then (some 115) else (if x218001.toList = ([115, 117, 98, 115, 99, 114, 105, 98, 101, 100] : List UInt8) then (some 115) else (if x218001.toList = ([117, 110, 115, 117, 98, 115, 99, 114, 105, 98, 101] : List UInt8) then (some 115) else (if x218001.toList = ([117, 110, 115, 117, 98, 115, 99, 114, 105, 98, 101, 100] : List UInt8) then (some 115) else (some 0)))))
end
def tidewaterref24_kind.f (k : Nat) (a0_0 : Int) (a0_1 : ByteArray) (a0_2 : ByteArray) (a0_3 : ByteArray) (a0_4 : ByteArray) (a0_5 : ByteArray) (a0_6 : ByteArray) (a0_7 : ByteArray) (a0_8 : Int) (a0_9 : Int) (a0_10 : Bool) (l0_11 : List (S142)) : Option (Int) := if a0_0 ≥ 2 then (tidewaterref24_kind.j0 k (decide (a0_0 ≤ 5)) a0_0 a0_1 a0_2 a0_3 a0_4 a0_5 a0_6 a0_7 a0_8 a0_9 a0_10 l0_11) else (tidewaterref24_kind.j0 k false a0_0 a0_1 a0_2 a0_3 a0_4 a0_5 a0_6 a0_7 a0_8 a0_9 a0_10 l0_11)
theorem tidewaterref24_kind.mono_l : ∀ k, (∀ y0 y1 y2 y3 y4 y5 y6 y7 y8 y9 y10 y11 y12, LeO (tidewaterref24_kind.j0 k y0 y1 y2 y3 y4 y5 y6 y7 y8 y9 y10 y11 y12) (tidewaterref24_kind.j0 (k + 1) y0 y1 y2 y3 y4 y5 y6 y7 y8 y9 y10 y11 y12)) ∧ (∀ y0 y1 y2 y3 y4 y5 y6 y7 y8 y9 y10 y11 y12, LeO (tidewaterref24_kind.j1 k y0 y1 y2 y3 y4 y5 y6 y7 y8 y9 y10 y11 y12) (tidewaterref24_kind.j1 (k + 1) y0 y1 y2 y3 y4 y5 y6 y7 y8 y9 y10 y11 y12))
  | 0 => ⟨fun _ _ _ _ _ _ _ _ _ _ _ _ _ r h => by simp [tidewaterref24_kind.j0] at h, fun _ _ _ _ _ _ _ _ _ _ _ _ _ r h => by simp [tidewaterref24_kind.j1] at h⟩
  | k + 1 => by
    obtain ⟨ih0, ih1⟩ := tidewaterref24_kind.mono_l k
    refine ⟨?_, ?_⟩
    · intro y0 y1 y2 y3 y4 y5 y6 y7 y8 y9 y10 y11 y12
      unfold tidewaterref24_kind.j0
      repeat' first
      | (with_reducible exact ih0 _ _ _ _ _ _ _ _ _ _ _ _ _)
      | (with_reducible exact ih1 _ _ _ _ _ _ _ _ _ _ _ _ _)
      | (with_reducible exact LeO.refl _)
      | (with_reducible exact LeO.none _)
      | (with_reducible refine LeO.ite ?_ ?_)
      | (with_reducible refine LeO.bind ?_ (fun _ => ?_))
      | exact ih0 _ _ _ _ _ _ _ _ _ _ _ _ _
      | exact ih1 _ _ _ _ _ _ _ _ _ _ _ _ _
      | exact LeO.none _
      | refine LeO.ite ?_ ?_
      | refine LeO.bind ?_ (fun _ => ?_)
    · intro y0 y1 y2 y3 y4 y5 y6 y7 y8 y9 y10 y11 y12
      unfold tidewaterref24_kind.j1
      repeat' first
      | (with_reducible exact ih0 _ _ _ _ _ _ _ _ _ _ _ _ _)
      | (with_reducible exact ih1 _ _ _ _ _ _ _ _ _ _ _ _ _)
      | (with_reducible exact LeO.refl _)
      | (with_reducible exact LeO.none _)
      | (with_reducible refine LeO.ite ?_ ?_)
      | (with_reducible refine LeO.bind ?_ (fun _ => ?_))
      | exact ih0 _ _ _ _ _ _ _ _ _ _ _ _ _
      | exact ih1 _ _ _ _ _ _ _ _ _ _ _ _ _
      | exact LeO.none _
      | refine LeO.ite ?_ ?_
      | refine LeO.bind ?_ (fun _ => ?_)
theorem tidewaterref24_kind.mono : ∀ a0 a1 a2 a3 a4 a5 a6 a7 a8 a9 a10 a11 k, LeO (tidewaterref24_kind.f k a0 a1 a2 a3 a4 a5 a6 a7 a8 a9 a10 a11) (tidewaterref24_kind.f (k + 1) a0 a1 a2 a3 a4 a5 a6 a7 a8 a9 a10 a11) := by
  intro a0 a1 a2 a3 a4 a5 a6 a7 a8 a9 a10 a11 k
  obtain ⟨ih0, ih1⟩ := tidewaterref24_kind.mono_l k
  unfold tidewaterref24_kind.f
  repeat' first
      | (with_reducible exact ih0 _ _ _ _ _ _ _ _ _ _ _ _ _)
      | (with_reducible exact ih1 _ _ _ _ _ _ _ _ _ _ _ _ _)
      | (with_reducible exact LeO.refl _)
      | (with_reducible exact LeO.none _)
      | (with_reducible refine LeO.ite ?_ ?_)
      | (with_reducible refine LeO.bind ?_ (fun _ => ?_))
      | exact ih0 _ _ _ _ _ _ _ _ _ _ _ _ _
      | exact ih1 _ _ _ _ _ _ _ _ _ _ _ _ _
      | exact LeO.none _
      | refine LeO.ite ?_ ?_
      | refine LeO.bind ?_ (fun _ => ?_)
set_option maxHeartbeats 8000000 in
set_option maxRecDepth 100000 in
theorem tidewaterref24_kind.calls (k : Nat) (a0_0 : Int) (a0_1 : ByteArray) (a0_2 : ByteArray) (a0_3 : ByteArray) (a0_4 : ByteArray) (a0_5 : ByteArray) (a0_6 : ByteArray) (a0_7 : ByteArray) (a0_8 : Int) (a0_9 : Int) (a0_10 : Bool) (A0_11 : Option Addr) (c0_11 : Nat) (l0_11 : List (S142)) (r : Int) (w : World) (hr0_11 : Kd.C k142 w A0_11 l0_11.length l0_11) (hc0_11 : l0_11.length ≤ c0_11) (h : tidewaterref24_kind.f k a0_0 a0_1 a0_2 a0_3 a0_4 a0_5 a0_6 a0_7 a0_8 a0_9 a0_10 l0_11 = some r) :
    Calls Tryd.prog 23 #[.agg #[.int .i64 a0_0, .string a0_1, .string a0_2, .string a0_3, .string a0_4, .string a0_5, .string a0_6, .string a0_7, .int .u32 a0_8, .int .i64 a0_9, .bool a0_10, .slice A0_11 l0_11.length c0_11]] w fun e w' => e = .returned (.int .u8 r) ∧ Below w.heap.size w w' := by
  have hu26 := Tryd.underlying26
  have HR0_11 := Aside0.mk hr0_11
  have HC0_11 := Aside0.mk hc0_11
  clear hr0_11 hc0_11
  have HB := Aside0.mk (Below.refl w.heap.size w)
  have H : (if a0_0 ≥ 2 then (tidewaterref24_kind.j0 k (decide (a0_0 ≤ 5)) a0_0 a0_1 a0_2 a0_3 a0_4 a0_5 a0_6 a0_7 a0_8 a0_9 a0_10 l0_11) else (tidewaterref24_kind.j0 k false a0_0 a0_1 a0_2 a0_3 a0_4 a0_5 a0_6 a0_7 a0_8 a0_9 a0_10 l0_11)) = some r := h
  clear h
  have HC2 := Aside0.mk H
  clear H
  go_enter Tryd.func23, Tryd.ntmps23
  go_upto_region 1 with (first | ((with_reducible refine gate_dst (N := 1) rfl ?_); refine box_event ?hg (N := 1) ?hd (cs := #[.int .i64 a0_0, .string a0_1, .string a0_2, .string a0_3, .string a0_4, .string a0_5, .string a0_6, .string a0_7, .int .u32 a0_8, .int .i64 a0_9, .bool a0_10, .slice A0_11 l0_11.length c0_11]) (t := 26) ?hr ?_; (case hd => rfl); (case hg => rfl); (case hr => first | (go_simp; done) | (go_simp; rfl)); intro gb217 hg w3 hbox hb; have n0_ := Aside0.mk (below_step (by repeat (first | (with_reducible first | exact HB.out | apply below_alloc | apply pw_below_drewN | apply below_drew1) | exact HB.out)) hb); have n1_ := Aside0.mk (hbox); have n2_ := Aside0.mk ((by rw [hg]; exact (below_size (by repeat (first | (with_reducible first | exact HB.out | apply below_alloc | apply pw_below_drewN | apply below_drew1) | exact HB.out))) : w.heap.size ≤ gb217)); have n3_ := Aside0.mk ((by rw [hg]; exact (below_size (by repeat (first | (with_reducible first | exact HB.out | apply below_alloc | apply pw_below_drewN | apply below_drew1) | exact HB.out))) : w.heap.size ≤ gb217)); clear HB; have HB := n0_; have BK217 := n1_; have GW217 := n2_; have GE217 := n3_; clear n0_ n1_ n2_ n3_; clear hb hbox hg))
  (try simp only [Act.put, List.setIfInBounds_toArray, List.set_cons_zero, List.set_cons_succ])
  go_cut [10] (fun v10 wc => ∃ (kq : Nat) (x10_1 : Bool), v10 = .bool x10_1 ∧ Aside0 (tidewaterref24_kind.j0 kq x10_1 a0_0 a0_1 a0_2 a0_3 a0_4 a0_5 a0_6 a0_7 a0_8 a0_9 a0_10 l0_11 = some r) ∧ Aside0 (kq ≤ k) ∧ Aside0 (wc.heap[gb217]? = some (.cells #[.int .i64 a0_0, .string a0_1, .string a0_2, .string a0_3, .string a0_4, .string a0_5, .string a0_6, .string a0_7, .int .u32 a0_8, .int .i64 a0_9, .bool a0_10, (.slice A0_11 l0_11.length c0_11)] 26 (0, 0))) ∧ Aside0 (Below w.heap.size w wc))
  case first =>
    have H := HC2.out
    clear HC2
    by_cases c4 : a0_0 ≥ 2
    · rw [if_pos c4] at H
      have c4b0 : decide (2 ≤ a0_0) = true := decide_eq_true c4
      clear c4
      (first | rw [c4b0] | (simp only [i64_w, i32_w]; rw [c4b0]) | skip)
      have H' := Aside0.mk H
      clear H
      have hcz5_0 : w3.cell? ⟨gb217, 0, none⟩ = some (.int .i64 a0_0) := (blk_cell BK217.out 0).trans rfl
      have hcz5_1 : w3.cell? ⟨gb217, 1, none⟩ = some (.string a0_1) := (blk_cell BK217.out 1).trans rfl
      have hcz5_2 : w3.cell? ⟨gb217, 2, none⟩ = some (.string a0_2) := (blk_cell BK217.out 2).trans rfl
      have hcz5_3 : w3.cell? ⟨gb217, 3, none⟩ = some (.string a0_3) := (blk_cell BK217.out 3).trans rfl
      have hcz5_4 : w3.cell? ⟨gb217, 4, none⟩ = some (.string a0_4) := (blk_cell BK217.out 4).trans rfl
      have hcz5_5 : w3.cell? ⟨gb217, 5, none⟩ = some (.string a0_5) := (blk_cell BK217.out 5).trans rfl
      have hcz5_6 : w3.cell? ⟨gb217, 6, none⟩ = some (.string a0_6) := (blk_cell BK217.out 6).trans rfl
      have hcz5_7 : w3.cell? ⟨gb217, 7, none⟩ = some (.string a0_7) := (blk_cell BK217.out 7).trans rfl
      have hcz5_8 : w3.cell? ⟨gb217, 8, none⟩ = some (.int .u32 a0_8) := (blk_cell BK217.out 8).trans rfl
      have hcz5_9 : w3.cell? ⟨gb217, 9, none⟩ = some (.int .i64 a0_9) := (blk_cell BK217.out 9).trans rfl
      have hcz5_10 : w3.cell? ⟨gb217, 10, none⟩ = some (.bool a0_10) := (blk_cell BK217.out 10).trans rfl
      have hcz5_11 : w3.cell? ⟨gb217, 11, none⟩ = some (.slice A0_11 l0_11.length c0_11) := (blk_cell BK217.out 11).trans rfl
      have hfz5_0 := blk_frozen BK217.out 0
      have hfz5_1 := blk_frozen BK217.out 1
      have hfz5_2 := blk_frozen BK217.out 2
      have hfz5_3 := blk_frozen BK217.out 3
      have hfz5_4 := blk_frozen BK217.out 4
      have hfz5_5 := blk_frozen BK217.out 5
      have hfz5_6 := blk_frozen BK217.out 6
      have hfz5_7 := blk_frozen BK217.out 7
      have hfz5_8 := blk_frozen BK217.out 8
      have hfz5_9 := blk_frozen BK217.out 9
      have hfz5_10 := blk_frozen BK217.out 10
      have hfz5_11 := blk_frozen BK217.out 11
      go_wp2
      go_meet
      case rel => exact ⟨_, (decide (a0_0 ≤ 5)), (by first | rfl | (simp; done) | (simp [*]; done)), H', ⟨by first | omega | exact Nat.le_refl _⟩, ⟨by (with_reducible repeat (first | refine blk_drewN ?_ _ | refine blk_drew ?_ | refine blk_alloc ?_ _)); exact BK217.out⟩, ⟨by repeat (first | (with_reducible first | exact HB.out | apply below_alloc | apply pw_below_drewN | apply below_drew1 | refine below_set ?_ GE217.out) | exact HB.out)⟩⟩
    · rw [if_neg c4] at H
      have c4b0 : decide (2 ≤ a0_0) = false := decide_eq_false c4
      clear c4
      (first | rw [c4b0] | (simp only [i64_w, i32_w]; rw [c4b0]) | skip)
      have H' := Aside0.mk H
      clear H
      have hcz6_0 : w3.cell? ⟨gb217, 0, none⟩ = some (.int .i64 a0_0) := (blk_cell BK217.out 0).trans rfl
      have hcz6_1 : w3.cell? ⟨gb217, 1, none⟩ = some (.string a0_1) := (blk_cell BK217.out 1).trans rfl
      have hcz6_2 : w3.cell? ⟨gb217, 2, none⟩ = some (.string a0_2) := (blk_cell BK217.out 2).trans rfl
      have hcz6_3 : w3.cell? ⟨gb217, 3, none⟩ = some (.string a0_3) := (blk_cell BK217.out 3).trans rfl
      have hcz6_4 : w3.cell? ⟨gb217, 4, none⟩ = some (.string a0_4) := (blk_cell BK217.out 4).trans rfl
      have hcz6_5 : w3.cell? ⟨gb217, 5, none⟩ = some (.string a0_5) := (blk_cell BK217.out 5).trans rfl
      have hcz6_6 : w3.cell? ⟨gb217, 6, none⟩ = some (.string a0_6) := (blk_cell BK217.out 6).trans rfl
      have hcz6_7 : w3.cell? ⟨gb217, 7, none⟩ = some (.string a0_7) := (blk_cell BK217.out 7).trans rfl
      have hcz6_8 : w3.cell? ⟨gb217, 8, none⟩ = some (.int .u32 a0_8) := (blk_cell BK217.out 8).trans rfl
      have hcz6_9 : w3.cell? ⟨gb217, 9, none⟩ = some (.int .i64 a0_9) := (blk_cell BK217.out 9).trans rfl
      have hcz6_10 : w3.cell? ⟨gb217, 10, none⟩ = some (.bool a0_10) := (blk_cell BK217.out 10).trans rfl
      have hcz6_11 : w3.cell? ⟨gb217, 11, none⟩ = some (.slice A0_11 l0_11.length c0_11) := (blk_cell BK217.out 11).trans rfl
      have hfz6_0 := blk_frozen BK217.out 0
      have hfz6_1 := blk_frozen BK217.out 1
      have hfz6_2 := blk_frozen BK217.out 2
      have hfz6_3 := blk_frozen BK217.out 3
      have hfz6_4 := blk_frozen BK217.out 4
      have hfz6_5 := blk_frozen BK217.out 5
      have hfz6_6 := blk_frozen BK217.out 6
      have hfz6_7 := blk_frozen BK217.out 7
      have hfz6_8 := blk_frozen BK217.out 8
      have hfz6_9 := blk_frozen BK217.out 9
      have hfz6_10 := blk_frozen BK217.out 10
      have hfz6_11 := blk_frozen BK217.out 11
      go_wp2
      go_meet
      case rel => exact ⟨_, (false), (by first | rfl | (simp; done) | (simp [*]; done)), H', ⟨by first | omega | exact Nat.le_refl _⟩, ⟨by (with_reducible repeat (first | refine blk_drewN ?_ _ | refine blk_drew ?_ | refine blk_alloc ?_ _)); exact BK217.out⟩, ⟨by repeat (first | (with_reducible first | exact HB.out | apply below_alloc | apply pw_below_drewN | apply below_drew1 | refine below_set ?_ GE217.out) | exact HB.out)⟩⟩
  case rest =>
    clear HC2
    try clear c2
    try clear p2
    try clear c4
    try clear c4b0
    try clear hcz5_0
    try clear hcz5_1
    try clear hcz5_10
    try clear hcz5_11
    try clear hcz5_2
    try clear hcz5_3
    try clear hcz5_4
    try clear hcz5_5
    try clear hcz5_6
    try clear hcz5_7
    try clear hcz5_8
    try clear hcz5_9
    try clear hcz6_0
    try clear hcz6_1
    try clear hcz6_10
    try clear hcz6_11
    try clear hcz6_2
    try clear hcz6_3
    try clear hcz6_4
    try clear hcz6_5
    try clear hcz6_6
    try clear hcz6_7
    try clear hcz6_8
    try clear hcz6_9
    try clear hfz5_0
    try clear hfz5_1
    try clear hfz5_10
    try clear hfz5_11
    try clear hfz5_2
    try clear hfz5_3
    try clear hfz5_4
    try clear hfz5_5
    try clear hfz5_6
    try clear hfz5_7
    try clear hfz5_8
    try clear hfz5_9
    try clear hfz6_0
    try clear hfz6_1
    try clear hfz6_10
    try clear hfz6_11
    try clear hfz6_2
    try clear hfz6_3
    try clear hfz6_4
    try clear hfz6_5
    try clear hfz6_6
    try clear hfz6_7
    try clear hfz6_8
    try clear hfz6_9
    obtain ⟨kq, x10_1, rfl, HA, HJ1, BK217, HB⟩ := hcut
    cases kq with
    | zero => exact absurd HA.out (by simp [tidewaterref24_kind.j0])
    | succ kj1 =>
      have H := HA.out
      clear HA
      simp only [tidewaterref24_kind.j0] at H
      by_cases c7 : x10_1 = true
      · subst c7
        have H1 : (some 113) = some r := by rw [if_pos rfl] at H; exact H
        clear H
        have H := H1
        clear H1
        obtain rfl := Option.some.inj H
        go_wp2
        go_ret
        exact ⟨by first | rfl | (simp [errW_none, errW_some] <;> rfl) | (simp [*, errW_none, errW_some] <;> rfl), by repeat (first | (with_reducible first | exact HB.out | apply below_alloc | apply pw_below_drewN | apply below_drew1 | refine below_set ?_ GE217.out) | exact HB.out)⟩
      · replace c7 := Bool.eq_false_iff.mpr c7
        subst c7
        have H1 : (if a0_0 = 1 then (if a0_1.toList = ([] : List UInt8) then (tidewaterref24_kind.j1 kj1 true a0_0 a0_1 a0_2 a0_3 a0_4 a0_5 a0_6 a0_7 a0_8 a0_9 a0_10 l0_11) else (tidewaterref24_kind.j1 kj1 (a0_1.toList == ([117, 110, 97, 118, 97, 105, 108, 97, 98, 108, 101] : List UInt8)) a0_0 a0_1 a0_2 a0_3 a0_4 a0_5 a0_6 a0_7 a0_8 a0_9 a0_10 l0_11)) else (some 0)) = some r := by rw [if_neg (show ¬ (false = true) by decide)] at H; exact H
        clear H
        have H := H1
        clear H1
        by_cases c8 : a0_0 = 1
        · rw [if_pos c8] at H
          have c8b0 : (a0_0 == 1) = true := beq_iff_eq.mpr c8
          have c8b1 : (a0_0 != 1) = false := bne_eq_false_iff_eq.mpr c8
          clear c8
          have HC9 := Aside0.mk H
          clear H
          have hcz10_0 : wc.cell? ⟨gb217, 0, none⟩ = some (.int .i64 a0_0) := (blk_cell BK217.out 0).trans rfl
          have hcz10_1 : wc.cell? ⟨gb217, 1, none⟩ = some (.string a0_1) := (blk_cell BK217.out 1).trans rfl
          have hcz10_2 : wc.cell? ⟨gb217, 2, none⟩ = some (.string a0_2) := (blk_cell BK217.out 2).trans rfl
          have hcz10_3 : wc.cell? ⟨gb217, 3, none⟩ = some (.string a0_3) := (blk_cell BK217.out 3).trans rfl
          have hcz10_4 : wc.cell? ⟨gb217, 4, none⟩ = some (.string a0_4) := (blk_cell BK217.out 4).trans rfl
          have hcz10_5 : wc.cell? ⟨gb217, 5, none⟩ = some (.string a0_5) := (blk_cell BK217.out 5).trans rfl
          have hcz10_6 : wc.cell? ⟨gb217, 6, none⟩ = some (.string a0_6) := (blk_cell BK217.out 6).trans rfl
          have hcz10_7 : wc.cell? ⟨gb217, 7, none⟩ = some (.string a0_7) := (blk_cell BK217.out 7).trans rfl
          have hcz10_8 : wc.cell? ⟨gb217, 8, none⟩ = some (.int .u32 a0_8) := (blk_cell BK217.out 8).trans rfl
          have hcz10_9 : wc.cell? ⟨gb217, 9, none⟩ = some (.int .i64 a0_9) := (blk_cell BK217.out 9).trans rfl
          have hcz10_10 : wc.cell? ⟨gb217, 10, none⟩ = some (.bool a0_10) := (blk_cell BK217.out 10).trans rfl
          have hcz10_11 : wc.cell? ⟨gb217, 11, none⟩ = some (.slice A0_11 l0_11.length c0_11) := (blk_cell BK217.out 11).trans rfl
          have hfz10_0 := blk_frozen BK217.out 0
          have hfz10_1 := blk_frozen BK217.out 1
          have hfz10_2 := blk_frozen BK217.out 2
          have hfz10_3 := blk_frozen BK217.out 3
          have hfz10_4 := blk_frozen BK217.out 4
          have hfz10_5 := blk_frozen BK217.out 5
          have hfz10_6 := blk_frozen BK217.out 6
          have hfz10_7 := blk_frozen BK217.out 7
          have hfz10_8 := blk_frozen BK217.out 8
          have hfz10_9 := blk_frozen BK217.out 9
          have hfz10_10 := blk_frozen BK217.out 10
          have hfz10_11 := blk_frozen BK217.out 11
          go_upto_region 5 with (fail)
          go_cut [21] (fun v21 wc => ∃ (kq : Nat) (x21_8 : Bool), v21 = .bool x21_8 ∧ Aside0 (tidewaterref24_kind.j1 kq x21_8 a0_0 a0_1 a0_2 a0_3 a0_4 a0_5 a0_6 a0_7 a0_8 a0_9 a0_10 l0_11 = some r) ∧ Aside0 (kq ≤ kj1) ∧ Aside0 (wc.heap[gb217]? = some (.cells #[.int .i64 a0_0, .string a0_1, .string a0_2, .string a0_3, .string a0_4, .string a0_5, .string a0_6, .string a0_7, .int .u32 a0_8, .int .i64 a0_9, .bool a0_10, (.slice A0_11 l0_11.length c0_11)] 26 (0, 0))) ∧ Aside0 (Below w.heap.size w wc))
          case first =>
            have H := HC9.out
            clear HC9
            by_cases c11 : a0_1.toList = ([] : List UInt8)
            · rw [if_pos c11] at H
              have c11b0 : (a0_1.toList == ([] : List UInt8)) = true := beq_iff_eq.mpr c11
              have c11b1 : (a0_1.toList != ([] : List UInt8)) = false := bne_eq_false_iff_eq.mpr c11
              clear c11
              (first | rw [c11b0] | (simp only [i64_w, i32_w]; rw [c11b0]) | skip)
              have H' := Aside0.mk H
              clear H
              have hcz12_0 : wc.cell? ⟨gb217, 0, none⟩ = some (.int .i64 a0_0) := (blk_cell BK217.out 0).trans rfl
              have hcz12_1 : wc.cell? ⟨gb217, 1, none⟩ = some (.string a0_1) := (blk_cell BK217.out 1).trans rfl
              have hcz12_2 : wc.cell? ⟨gb217, 2, none⟩ = some (.string a0_2) := (blk_cell BK217.out 2).trans rfl
              have hcz12_3 : wc.cell? ⟨gb217, 3, none⟩ = some (.string a0_3) := (blk_cell BK217.out 3).trans rfl
              have hcz12_4 : wc.cell? ⟨gb217, 4, none⟩ = some (.string a0_4) := (blk_cell BK217.out 4).trans rfl
              have hcz12_5 : wc.cell? ⟨gb217, 5, none⟩ = some (.string a0_5) := (blk_cell BK217.out 5).trans rfl
              have hcz12_6 : wc.cell? ⟨gb217, 6, none⟩ = some (.string a0_6) := (blk_cell BK217.out 6).trans rfl
              have hcz12_7 : wc.cell? ⟨gb217, 7, none⟩ = some (.string a0_7) := (blk_cell BK217.out 7).trans rfl
              have hcz12_8 : wc.cell? ⟨gb217, 8, none⟩ = some (.int .u32 a0_8) := (blk_cell BK217.out 8).trans rfl
              have hcz12_9 : wc.cell? ⟨gb217, 9, none⟩ = some (.int .i64 a0_9) := (blk_cell BK217.out 9).trans rfl
              have hcz12_10 : wc.cell? ⟨gb217, 10, none⟩ = some (.bool a0_10) := (blk_cell BK217.out 10).trans rfl
              have hcz12_11 : wc.cell? ⟨gb217, 11, none⟩ = some (.slice A0_11 l0_11.length c0_11) := (blk_cell BK217.out 11).trans rfl
              have hfz12_0 := blk_frozen BK217.out 0
              have hfz12_1 := blk_frozen BK217.out 1
              have hfz12_2 := blk_frozen BK217.out 2
              have hfz12_3 := blk_frozen BK217.out 3
              have hfz12_4 := blk_frozen BK217.out 4
              have hfz12_5 := blk_frozen BK217.out 5
              have hfz12_6 := blk_frozen BK217.out 6
              have hfz12_7 := blk_frozen BK217.out 7
              have hfz12_8 := blk_frozen BK217.out 8
              have hfz12_9 := blk_frozen BK217.out 9
              have hfz12_10 := blk_frozen BK217.out 10
              have hfz12_11 := blk_frozen BK217.out 11
              go_wp2
              go_meet
              case rel => exact ⟨_, (true), (by first | rfl | (simp; done) | (simp [*]; done)), H', ⟨by have := HJ1.out; first | omega | exact Nat.le_refl _⟩, ⟨by (with_reducible repeat (first | refine blk_drewN ?_ _ | refine blk_drew ?_ | refine blk_alloc ?_ _)); exact BK217.out⟩, ⟨by repeat (first | (with_reducible first | exact HB.out | apply below_alloc | apply pw_below_drewN | apply below_drew1 | refine below_set ?_ GE217.out) | exact HB.out)⟩⟩
            · rw [if_neg c11] at H
              have c11b0 : (a0_1.toList == ([] : List UInt8)) = false := beq_eq_false_iff_ne.mpr c11
              have c11b1 : (a0_1.toList != ([] : List UInt8)) = true := bne_iff_ne.mpr c11
              (first | rw [c11b0] | (simp only [i64_w, i32_w]; rw [c11b0]) | skip)
              have H' := Aside0.mk H
              clear H
              have hcz13_0 : wc.cell? ⟨gb217, 0, none⟩ = some (.int .i64 a0_0) := (blk_cell BK217.out 0).trans rfl
              have hcz13_1 : wc.cell? ⟨gb217, 1, none⟩ = some (.string a0_1) := (blk_cell BK217.out 1).trans rfl
              have hcz13_2 : wc.cell? ⟨gb217, 2, none⟩ = some (.string a0_2) := (blk_cell BK217.out 2).trans rfl
              have hcz13_3 : wc.cell? ⟨gb217, 3, none⟩ = some (.string a0_3) := (blk_cell BK217.out 3).trans rfl
              have hcz13_4 : wc.cell? ⟨gb217, 4, none⟩ = some (.string a0_4) := (blk_cell BK217.out 4).trans rfl
              have hcz13_5 : wc.cell? ⟨gb217, 5, none⟩ = some (.string a0_5) := (blk_cell BK217.out 5).trans rfl
              have hcz13_6 : wc.cell? ⟨gb217, 6, none⟩ = some (.string a0_6) := (blk_cell BK217.out 6).trans rfl
              have hcz13_7 : wc.cell? ⟨gb217, 7, none⟩ = some (.string a0_7) := (blk_cell BK217.out 7).trans rfl
              have hcz13_8 : wc.cell? ⟨gb217, 8, none⟩ = some (.int .u32 a0_8) := (blk_cell BK217.out 8).trans rfl
              have hcz13_9 : wc.cell? ⟨gb217, 9, none⟩ = some (.int .i64 a0_9) := (blk_cell BK217.out 9).trans rfl
              have hcz13_10 : wc.cell? ⟨gb217, 10, none⟩ = some (.bool a0_10) := (blk_cell BK217.out 10).trans rfl
              have hcz13_11 : wc.cell? ⟨gb217, 11, none⟩ = some (.slice A0_11 l0_11.length c0_11) := (blk_cell BK217.out 11).trans rfl
              have hfz13_0 := blk_frozen BK217.out 0
              have hfz13_1 := blk_frozen BK217.out 1
              have hfz13_2 := blk_frozen BK217.out 2
              have hfz13_3 := blk_frozen BK217.out 3
              have hfz13_4 := blk_frozen BK217.out 4
              have hfz13_5 := blk_frozen BK217.out 5
              have hfz13_6 := blk_frozen BK217.out 6
              have hfz13_7 := blk_frozen BK217.out 7
              have hfz13_8 := blk_frozen BK217.out 8
              have hfz13_9 := blk_frozen BK217.out 9
              have hfz13_10 := blk_frozen BK217.out 10
              have hfz13_11 := blk_frozen BK217.out 11
              go_wp2
              go_meet
              case rel => exact ⟨_, ((a0_1.toList == ([117, 110, 97, 118, 97, 105, 108, 97, 98, 108, 101] : List UInt8))), (by first | rfl | (simp; done) | (simp [*]; done)), H', ⟨by have := HJ1.out; first | omega | exact Nat.le_refl _⟩, ⟨by (with_reducible repeat (first | refine blk_drewN ?_ _ | refine blk_drew ?_ | refine blk_alloc ?_ _)); exact BK217.out⟩, ⟨by repeat (first | (with_reducible first | exact HB.out | apply below_alloc | apply pw_below_drewN | apply below_drew1 | refine below_set ?_ GE217.out) | exact HB.out)⟩⟩
          case rest =>
            clear HC9
            try clear c1
            try clear c2
            try clear p2
            try clear c4
            try clear c4b0
            try clear c7
            try clear c8
            try clear c8b0
            try clear c8b1
            try clear c11
            try clear c11b0
            try clear c11b1
            try clear hcz10_0
            try clear hcz10_1
            try clear hcz10_10
            try clear hcz10_11
            try clear hcz10_2
            try clear hcz10_3
            try clear hcz10_4
            try clear hcz10_5
            try clear hcz10_6
            try clear hcz10_7
            try clear hcz10_8
            try clear hcz10_9
            try clear hcz12_0
            try clear hcz12_1
            try clear hcz12_10
            try clear hcz12_11
            try clear hcz12_2
            try clear hcz12_3
            try clear hcz12_4
            try clear hcz12_5
            try clear hcz12_6
            try clear hcz12_7
            try clear hcz12_8
            try clear hcz12_9
            try clear hcz13_0
            try clear hcz13_1
            try clear hcz13_10
            try clear hcz13_11
            try clear hcz13_2
            try clear hcz13_3
            try clear hcz13_4
            try clear hcz13_5
            try clear hcz13_6
            try clear hcz13_7
            try clear hcz13_8
            try clear hcz13_9
            try clear hcz5_0
            try clear hcz5_1
            try clear hcz5_10
            try clear hcz5_11
            try clear hcz5_2
            try clear hcz5_3
            try clear hcz5_4
            try clear hcz5_5
            try clear hcz5_6
            try clear hcz5_7
            try clear hcz5_8
            try clear hcz5_9
            try clear hcz6_0
            try clear hcz6_1
            try clear hcz6_10
            try clear hcz6_11
            try clear hcz6_2
            try clear hcz6_3
            try clear hcz6_4
            try clear hcz6_5
            try clear hcz6_6
            try clear hcz6_7
            try clear hcz6_8
            try clear hcz6_9
            try clear hfz10_0
            try clear hfz10_1
            try clear hfz10_10
            try clear hfz10_11
            try clear hfz10_2
            try clear hfz10_3
            try clear hfz10_4
            try clear hfz10_5
            try clear hfz10_6
            try clear hfz10_7
            try clear hfz10_8
            try clear hfz10_9
            try clear hfz12_0
            try clear hfz12_1
            try clear hfz12_10
            try clear hfz12_11
            try clear hfz12_2
            try clear hfz12_3
            try clear hfz12_4
            try clear hfz12_5
            try clear hfz12_6
            try clear hfz12_7
            try clear hfz12_8
            try clear hfz12_9
            try clear hfz13_0
            try clear hfz13_1
            try clear hfz13_10
            try clear hfz13_11
            try clear hfz13_2
            try clear hfz13_3
            try clear hfz13_4
            try clear hfz13_5
            try clear hfz13_6
            try clear hfz13_7
            try clear hfz13_8
            try clear hfz13_9
            try clear hfz5_0
            try clear hfz5_1
            try clear hfz5_10
            try clear hfz5_11
            try clear hfz5_2
            try clear hfz5_3
            try clear hfz5_4
            try clear hfz5_5
            try clear hfz5_6
            try clear hfz5_7
            try clear hfz5_8
            try clear hfz5_9
            try clear hfz6_0
            try clear hfz6_1
            try clear hfz6_10
            try clear hfz6_11
            try clear hfz6_2
            try clear hfz6_3
            try clear hfz6_4
            try clear hfz6_5
            try clear hfz6_6
            try clear hfz6_7
            try clear hfz6_8
            try clear hfz6_9
            try clear p2
            obtain ⟨kq, x21_8, rfl, HA, HJ8, BK217, HB⟩ := hcut
            cases kq with
            | zero => exact absurd HA.out (by simp [tidewaterref24_kind.j1])
            | succ kj8 =>
              have H := HA.out
              clear HA
              simp only [tidewaterref24_kind.j1] at H
              by_cases c14 : x21_8 = true
              · subst c14
                have H1 : (some 112) = some r := by rw [if_pos rfl] at H; exact H
                clear H
                have H := H1
                clear H1
                obtain rfl := Option.some.inj H
                go_wp2
                go_ret
                exact ⟨by first | rfl | (simp [errW_none, errW_some] <;> rfl) | (simp [*, errW_none, errW_some] <;> rfl), by repeat (first | (with_reducible first | exact HB.out | apply below_alloc | apply pw_below_drewN | apply below_drew1 | refine below_set ?_ GE217.out) | exact HB.out)⟩
              · replace c14 := Bool.eq_false_iff.mpr c14
                subst c14
                have H1 : (if a0_1.toList = ([115, 117, 98, 115, 99, 114, 105, 98, 101] : List UInt8) then (some 115) else (if a0_1.toList = ([115, 117, 98, 115, 99, 114, 105, 98, 101, 100] : List UInt8) then (some 115) else (if a0_1.toList = ([117, 110, 115, 117, 98, 115, 99, 114, 105, 98, 101] : List UInt8) then (some 115) else (if a0_1.toList = ([117, 110, 115, 117, 98, 115, 99, 114, 105, 98, 101, 100] : List UInt8) then (some 115) else (some 0))))) = some r := by rw [if_neg (show ¬ (false = true) by decide)] at H; exact H
                clear H
                have H := H1
                clear H1
                by_cases c15 : a0_1.toList = ([115, 117, 98, 115, 99, 114, 105, 98, 101] : List UInt8)
                · rw [if_pos c15] at H
                  have c15b0 : (a0_1.toList == ([115, 117, 98, 115, 99, 114, 105, 98, 101] : List UInt8)) = true := beq_iff_eq.mpr c15
                  have c15b1 : (a0_1.toList != ([115, 117, 98, 115, 99, 114, 105, 98, 101] : List UInt8)) = false := bne_eq_false_iff_eq.mpr c15
                  clear c15
                  obtain rfl := Option.some.inj H
                  have hcz16_0 : wc.cell? ⟨gb217, 0, none⟩ = some (.int .i64 a0_0) := (blk_cell BK217.out 0).trans rfl
                  have hcz16_1 : wc.cell? ⟨gb217, 1, none⟩ = some (.string a0_1) := (blk_cell BK217.out 1).trans rfl
                  have hcz16_2 : wc.cell? ⟨gb217, 2, none⟩ = some (.string a0_2) := (blk_cell BK217.out 2).trans rfl
                  have hcz16_3 : wc.cell? ⟨gb217, 3, none⟩ = some (.string a0_3) := (blk_cell BK217.out 3).trans rfl
                  have hcz16_4 : wc.cell? ⟨gb217, 4, none⟩ = some (.string a0_4) := (blk_cell BK217.out 4).trans rfl
                  have hcz16_5 : wc.cell? ⟨gb217, 5, none⟩ = some (.string a0_5) := (blk_cell BK217.out 5).trans rfl
                  have hcz16_6 : wc.cell? ⟨gb217, 6, none⟩ = some (.string a0_6) := (blk_cell BK217.out 6).trans rfl
                  have hcz16_7 : wc.cell? ⟨gb217, 7, none⟩ = some (.string a0_7) := (blk_cell BK217.out 7).trans rfl
                  have hcz16_8 : wc.cell? ⟨gb217, 8, none⟩ = some (.int .u32 a0_8) := (blk_cell BK217.out 8).trans rfl
                  have hcz16_9 : wc.cell? ⟨gb217, 9, none⟩ = some (.int .i64 a0_9) := (blk_cell BK217.out 9).trans rfl
                  have hcz16_10 : wc.cell? ⟨gb217, 10, none⟩ = some (.bool a0_10) := (blk_cell BK217.out 10).trans rfl
                  have hcz16_11 : wc.cell? ⟨gb217, 11, none⟩ = some (.slice A0_11 l0_11.length c0_11) := (blk_cell BK217.out 11).trans rfl
                  have hfz16_0 := blk_frozen BK217.out 0
                  have hfz16_1 := blk_frozen BK217.out 1
                  have hfz16_2 := blk_frozen BK217.out 2
                  have hfz16_3 := blk_frozen BK217.out 3
                  have hfz16_4 := blk_frozen BK217.out 4
                  have hfz16_5 := blk_frozen BK217.out 5
                  have hfz16_6 := blk_frozen BK217.out 6
                  have hfz16_7 := blk_frozen BK217.out 7
                  have hfz16_8 := blk_frozen BK217.out 8
                  have hfz16_9 := blk_frozen BK217.out 9
                  have hfz16_10 := blk_frozen BK217.out 10
                  have hfz16_11 := blk_frozen BK217.out 11
                  go_wp2
                  go_ret
                  exact ⟨by first | rfl | (simp [errW_none, errW_some] <;> rfl) | (simp [*, errW_none, errW_some] <;> rfl), by repeat (first | (with_reducible first | exact HB.out | apply below_alloc | apply pw_below_drewN | apply below_drew1 | refine below_set ?_ GE217.out) | exact HB.out)⟩
                · rw [if_neg c15] at H
                  have c15b0 : (a0_1.toList == ([115, 117, 98, 115, 99, 114, 105, 98, 101] : List UInt8)) = false := beq_eq_false_iff_ne.mpr c15
                  have c15b1 : (a0_1.toList != ([115, 117, 98, 115, 99, 114, 105, 98, 101] : List UInt8)) = true := bne_iff_ne.mpr c15
                  by_cases c17 : a0_1.toList = ([115, 117, 98, 115, 99, 114, 105, 98, 101, 100] : List UInt8)
                  · rw [if_pos c17] at H
                    have c17b0 : (a0_1.toList == ([115, 117, 98, 115, 99, 114, 105, 98, 101, 100] : List UInt8)) = true := beq_iff_eq.mpr c17
                    have c17b1 : (a0_1.toList != ([115, 117, 98, 115, 99, 114, 105, 98, 101, 100] : List UInt8)) = false := bne_eq_false_iff_eq.mpr c17
                    clear c17
                    obtain rfl := Option.some.inj H
                    have hcz18_0 : wc.cell? ⟨gb217, 0, none⟩ = some (.int .i64 a0_0) := (blk_cell BK217.out 0).trans rfl
                    have hcz18_1 : wc.cell? ⟨gb217, 1, none⟩ = some (.string a0_1) := (blk_cell BK217.out 1).trans rfl
                    have hcz18_2 : wc.cell? ⟨gb217, 2, none⟩ = some (.string a0_2) := (blk_cell BK217.out 2).trans rfl
                    have hcz18_3 : wc.cell? ⟨gb217, 3, none⟩ = some (.string a0_3) := (blk_cell BK217.out 3).trans rfl
                    have hcz18_4 : wc.cell? ⟨gb217, 4, none⟩ = some (.string a0_4) := (blk_cell BK217.out 4).trans rfl
                    have hcz18_5 : wc.cell? ⟨gb217, 5, none⟩ = some (.string a0_5) := (blk_cell BK217.out 5).trans rfl
                    have hcz18_6 : wc.cell? ⟨gb217, 6, none⟩ = some (.string a0_6) := (blk_cell BK217.out 6).trans rfl
                    have hcz18_7 : wc.cell? ⟨gb217, 7, none⟩ = some (.string a0_7) := (blk_cell BK217.out 7).trans rfl
                    have hcz18_8 : wc.cell? ⟨gb217, 8, none⟩ = some (.int .u32 a0_8) := (blk_cell BK217.out 8).trans rfl
                    have hcz18_9 : wc.cell? ⟨gb217, 9, none⟩ = some (.int .i64 a0_9) := (blk_cell BK217.out 9).trans rfl
                    have hcz18_10 : wc.cell? ⟨gb217, 10, none⟩ = some (.bool a0_10) := (blk_cell BK217.out 10).trans rfl
                    have hcz18_11 : wc.cell? ⟨gb217, 11, none⟩ = some (.slice A0_11 l0_11.length c0_11) := (blk_cell BK217.out 11).trans rfl
                    have hfz18_0 := blk_frozen BK217.out 0
                    have hfz18_1 := blk_frozen BK217.out 1
                    have hfz18_2 := blk_frozen BK217.out 2
                    have hfz18_3 := blk_frozen BK217.out 3
                    have hfz18_4 := blk_frozen BK217.out 4
                    have hfz18_5 := blk_frozen BK217.out 5
                    have hfz18_6 := blk_frozen BK217.out 6
                    have hfz18_7 := blk_frozen BK217.out 7
                    have hfz18_8 := blk_frozen BK217.out 8
                    have hfz18_9 := blk_frozen BK217.out 9
                    have hfz18_10 := blk_frozen BK217.out 10
                    have hfz18_11 := blk_frozen BK217.out 11
                    go_wp2
                    go_ret
                    exact ⟨by first | rfl | (simp [errW_none, errW_some] <;> rfl) | (simp [*, errW_none, errW_some] <;> rfl), by repeat (first | (with_reducible first | exact HB.out | apply below_alloc | apply pw_below_drewN | apply below_drew1 | refine below_set ?_ GE217.out) | exact HB.out)⟩
                  · rw [if_neg c17] at H
                    have c17b0 : (a0_1.toList == ([115, 117, 98, 115, 99, 114, 105, 98, 101, 100] : List UInt8)) = false := beq_eq_false_iff_ne.mpr c17
                    have c17b1 : (a0_1.toList != ([115, 117, 98, 115, 99, 114, 105, 98, 101, 100] : List UInt8)) = true := bne_iff_ne.mpr c17
                    by_cases c19 : a0_1.toList = ([117, 110, 115, 117, 98, 115, 99, 114, 105, 98, 101] : List UInt8)
                    · rw [if_pos c19] at H
                      have c19b0 : (a0_1.toList == ([117, 110, 115, 117, 98, 115, 99, 114, 105, 98, 101] : List UInt8)) = true := beq_iff_eq.mpr c19
                      have c19b1 : (a0_1.toList != ([117, 110, 115, 117, 98, 115, 99, 114, 105, 98, 101] : List UInt8)) = false := bne_eq_false_iff_eq.mpr c19
                      clear c19
                      obtain rfl := Option.some.inj H
                      have hcz20_0 : wc.cell? ⟨gb217, 0, none⟩ = some (.int .i64 a0_0) := (blk_cell BK217.out 0).trans rfl
                      have hcz20_1 : wc.cell? ⟨gb217, 1, none⟩ = some (.string a0_1) := (blk_cell BK217.out 1).trans rfl
                      have hcz20_2 : wc.cell? ⟨gb217, 2, none⟩ = some (.string a0_2) := (blk_cell BK217.out 2).trans rfl
                      have hcz20_3 : wc.cell? ⟨gb217, 3, none⟩ = some (.string a0_3) := (blk_cell BK217.out 3).trans rfl
                      have hcz20_4 : wc.cell? ⟨gb217, 4, none⟩ = some (.string a0_4) := (blk_cell BK217.out 4).trans rfl
                      have hcz20_5 : wc.cell? ⟨gb217, 5, none⟩ = some (.string a0_5) := (blk_cell BK217.out 5).trans rfl
                      have hcz20_6 : wc.cell? ⟨gb217, 6, none⟩ = some (.string a0_6) := (blk_cell BK217.out 6).trans rfl
                      have hcz20_7 : wc.cell? ⟨gb217, 7, none⟩ = some (.string a0_7) := (blk_cell BK217.out 7).trans rfl
                      have hcz20_8 : wc.cell? ⟨gb217, 8, none⟩ = some (.int .u32 a0_8) := (blk_cell BK217.out 8).trans rfl
                      have hcz20_9 : wc.cell? ⟨gb217, 9, none⟩ = some (.int .i64 a0_9) := (blk_cell BK217.out 9).trans rfl
                      have hcz20_10 : wc.cell? ⟨gb217, 10, none⟩ = some (.bool a0_10) := (blk_cell BK217.out 10).trans rfl
                      have hcz20_11 : wc.cell? ⟨gb217, 11, none⟩ = some (.slice A0_11 l0_11.length c0_11) := (blk_cell BK217.out 11).trans rfl
                      have hfz20_0 := blk_frozen BK217.out 0
                      have hfz20_1 := blk_frozen BK217.out 1
                      have hfz20_2 := blk_frozen BK217.out 2
                      have hfz20_3 := blk_frozen BK217.out 3
                      have hfz20_4 := blk_frozen BK217.out 4
                      have hfz20_5 := blk_frozen BK217.out 5
                      have hfz20_6 := blk_frozen BK217.out 6
                      have hfz20_7 := blk_frozen BK217.out 7
                      have hfz20_8 := blk_frozen BK217.out 8
                      have hfz20_9 := blk_frozen BK217.out 9
                      have hfz20_10 := blk_frozen BK217.out 10
                      have hfz20_11 := blk_frozen BK217.out 11
                      go_wp2
                      go_ret
                      exact ⟨by first | rfl | (simp [errW_none, errW_some] <;> rfl) | (simp [*, errW_none, errW_some] <;> rfl), by repeat (first | (with_reducible first | exact HB.out | apply below_alloc | apply pw_below_drewN | apply below_drew1 | refine below_set ?_ GE217.out) | exact HB.out)⟩
                    · rw [if_neg c19] at H
                      have c19b0 : (a0_1.toList == ([117, 110, 115, 117, 98, 115, 99, 114, 105, 98, 101] : List UInt8)) = false := beq_eq_false_iff_ne.mpr c19
                      have c19b1 : (a0_1.toList != ([117, 110, 115, 117, 98, 115, 99, 114, 105, 98, 101] : List UInt8)) = true := bne_iff_ne.mpr c19
                      by_cases c21 : a0_1.toList = ([117, 110, 115, 117, 98, 115, 99, 114, 105, 98, 101, 100] : List UInt8)
                      · rw [if_pos c21] at H
                        have c21b0 : (a0_1.toList == ([117, 110, 115, 117, 98, 115, 99, 114, 105, 98, 101, 100] : List UInt8)) = true := beq_iff_eq.mpr c21
                        have c21b1 : (a0_1.toList != ([117, 110, 115, 117, 98, 115, 99, 114, 105, 98, 101, 100] : List UInt8)) = false := bne_eq_false_iff_eq.mpr c21
                        clear c21
                        obtain rfl := Option.some.inj H
                        have hcz22_0 : wc.cell? ⟨gb217, 0, none⟩ = some (.int .i64 a0_0) := (blk_cell BK217.out 0).trans rfl
                        have hcz22_1 : wc.cell? ⟨gb217, 1, none⟩ = some (.string a0_1) := (blk_cell BK217.out 1).trans rfl
                        have hcz22_2 : wc.cell? ⟨gb217, 2, none⟩ = some (.string a0_2) := (blk_cell BK217.out 2).trans rfl
                        have hcz22_3 : wc.cell? ⟨gb217, 3, none⟩ = some (.string a0_3) := (blk_cell BK217.out 3).trans rfl
                        have hcz22_4 : wc.cell? ⟨gb217, 4, none⟩ = some (.string a0_4) := (blk_cell BK217.out 4).trans rfl
                        have hcz22_5 : wc.cell? ⟨gb217, 5, none⟩ = some (.string a0_5) := (blk_cell BK217.out 5).trans rfl
                        have hcz22_6 : wc.cell? ⟨gb217, 6, none⟩ = some (.string a0_6) := (blk_cell BK217.out 6).trans rfl
                        have hcz22_7 : wc.cell? ⟨gb217, 7, none⟩ = some (.string a0_7) := (blk_cell BK217.out 7).trans rfl
                        have hcz22_8 : wc.cell? ⟨gb217, 8, none⟩ = some (.int .u32 a0_8) := (blk_cell BK217.out 8).trans rfl
                        have hcz22_9 : wc.cell? ⟨gb217, 9, none⟩ = some (.int .i64 a0_9) := (blk_cell BK217.out 9).trans rfl
                        have hcz22_10 : wc.cell? ⟨gb217, 10, none⟩ = some (.bool a0_10) := (blk_cell BK217.out 10).trans rfl
                        have hcz22_11 : wc.cell? ⟨gb217, 11, none⟩ = some (.slice A0_11 l0_11.length c0_11) := (blk_cell BK217.out 11).trans rfl
                        have hfz22_0 := blk_frozen BK217.out 0
                        have hfz22_1 := blk_frozen BK217.out 1
                        have hfz22_2 := blk_frozen BK217.out 2
                        have hfz22_3 := blk_frozen BK217.out 3
                        have hfz22_4 := blk_frozen BK217.out 4
                        have hfz22_5 := blk_frozen BK217.out 5
                        have hfz22_6 := blk_frozen BK217.out 6
                        have hfz22_7 := blk_frozen BK217.out 7
                        have hfz22_8 := blk_frozen BK217.out 8
                        have hfz22_9 := blk_frozen BK217.out 9
                        have hfz22_10 := blk_frozen BK217.out 10
                        have hfz22_11 := blk_frozen BK217.out 11
                        go_wp2
                        go_ret
                        exact ⟨by first | rfl | (simp [errW_none, errW_some] <;> rfl) | (simp [*, errW_none, errW_some] <;> rfl), by repeat (first | (with_reducible first | exact HB.out | apply below_alloc | apply pw_below_drewN | apply below_drew1 | refine below_set ?_ GE217.out) | exact HB.out)⟩
                      · rw [if_neg c21] at H
                        have c21b0 : (a0_1.toList == ([117, 110, 115, 117, 98, 115, 99, 114, 105, 98, 101, 100] : List UInt8)) = false := beq_eq_false_iff_ne.mpr c21
                        have c21b1 : (a0_1.toList != ([117, 110, 115, 117, 98, 115, 99, 114, 105, 98, 101, 100] : List UInt8)) = true := bne_iff_ne.mpr c21
                        obtain rfl := Option.some.inj H
                        have hcz23_0 : wc.cell? ⟨gb217, 0, none⟩ = some (.int .i64 a0_0) := (blk_cell BK217.out 0).trans rfl
                        have hcz23_1 : wc.cell? ⟨gb217, 1, none⟩ = some (.string a0_1) := (blk_cell BK217.out 1).trans rfl
                        have hcz23_2 : wc.cell? ⟨gb217, 2, none⟩ = some (.string a0_2) := (blk_cell BK217.out 2).trans rfl
                        have hcz23_3 : wc.cell? ⟨gb217, 3, none⟩ = some (.string a0_3) := (blk_cell BK217.out 3).trans rfl
                        have hcz23_4 : wc.cell? ⟨gb217, 4, none⟩ = some (.string a0_4) := (blk_cell BK217.out 4).trans rfl
                        have hcz23_5 : wc.cell? ⟨gb217, 5, none⟩ = some (.string a0_5) := (blk_cell BK217.out 5).trans rfl
                        have hcz23_6 : wc.cell? ⟨gb217, 6, none⟩ = some (.string a0_6) := (blk_cell BK217.out 6).trans rfl
                        have hcz23_7 : wc.cell? ⟨gb217, 7, none⟩ = some (.string a0_7) := (blk_cell BK217.out 7).trans rfl
                        have hcz23_8 : wc.cell? ⟨gb217, 8, none⟩ = some (.int .u32 a0_8) := (blk_cell BK217.out 8).trans rfl
                        have hcz23_9 : wc.cell? ⟨gb217, 9, none⟩ = some (.int .i64 a0_9) := (blk_cell BK217.out 9).trans rfl
                        have hcz23_10 : wc.cell? ⟨gb217, 10, none⟩ = some (.bool a0_10) := (blk_cell BK217.out 10).trans rfl
                        have hcz23_11 : wc.cell? ⟨gb217, 11, none⟩ = some (.slice A0_11 l0_11.length c0_11) := (blk_cell BK217.out 11).trans rfl
                        have hfz23_0 := blk_frozen BK217.out 0
                        have hfz23_1 := blk_frozen BK217.out 1
                        have hfz23_2 := blk_frozen BK217.out 2
                        have hfz23_3 := blk_frozen BK217.out 3
                        have hfz23_4 := blk_frozen BK217.out 4
                        have hfz23_5 := blk_frozen BK217.out 5
                        have hfz23_6 := blk_frozen BK217.out 6
                        have hfz23_7 := blk_frozen BK217.out 7
                        have hfz23_8 := blk_frozen BK217.out 8
                        have hfz23_9 := blk_frozen BK217.out 9
                        have hfz23_10 := blk_frozen BK217.out 10
                        have hfz23_11 := blk_frozen BK217.out 11
                        go_wp2
                        go_ret
                        exact ⟨by first | rfl | (simp [errW_none, errW_some] <;> rfl) | (simp [*, errW_none, errW_some] <;> rfl), by repeat (first | (with_reducible first | exact HB.out | apply below_alloc | apply pw_below_drewN | apply below_drew1 | refine below_set ?_ GE217.out) | exact HB.out)⟩
        · rw [if_neg c8] at H
          have c8b0 : (a0_0 == 1) = false := beq_eq_false_iff_ne.mpr c8
          have c8b1 : (a0_0 != 1) = true := bne_iff_ne.mpr c8
          obtain rfl := Option.some.inj H
          have hcz24_0 : wc.cell? ⟨gb217, 0, none⟩ = some (.int .i64 a0_0) := (blk_cell BK217.out 0).trans rfl
          have hcz24_1 : wc.cell? ⟨gb217, 1, none⟩ = some (.string a0_1) := (blk_cell BK217.out 1).trans rfl
          have hcz24_2 : wc.cell? ⟨gb217, 2, none⟩ = some (.string a0_2) := (blk_cell BK217.out 2).trans rfl
          have hcz24_3 : wc.cell? ⟨gb217, 3, none⟩ = some (.string a0_3) := (blk_cell BK217.out 3).trans rfl
          have hcz24_4 : wc.cell? ⟨gb217, 4, none⟩ = some (.string a0_4) := (blk_cell BK217.out 4).trans rfl
          have hcz24_5 : wc.cell? ⟨gb217, 5, none⟩ = some (.string a0_5) := (blk_cell BK217.out 5).trans rfl
          have hcz24_6 : wc.cell? ⟨gb217, 6, none⟩ = some (.string a0_6) := (blk_cell BK217.out 6).trans rfl
          have hcz24_7 : wc.cell? ⟨gb217, 7, none⟩ = some (.string a0_7) := (blk_cell BK217.out 7).trans rfl
          have hcz24_8 : wc.cell? ⟨gb217, 8, none⟩ = some (.int .u32 a0_8) := (blk_cell BK217.out 8).trans rfl
          have hcz24_9 : wc.cell? ⟨gb217, 9, none⟩ = some (.int .i64 a0_9) := (blk_cell BK217.out 9).trans rfl
          have hcz24_10 : wc.cell? ⟨gb217, 10, none⟩ = some (.bool a0_10) := (blk_cell BK217.out 10).trans rfl
          have hcz24_11 : wc.cell? ⟨gb217, 11, none⟩ = some (.slice A0_11 l0_11.length c0_11) := (blk_cell BK217.out 11).trans rfl
          have hfz24_0 := blk_frozen BK217.out 0
          have hfz24_1 := blk_frozen BK217.out 1
          have hfz24_2 := blk_frozen BK217.out 2
          have hfz24_3 := blk_frozen BK217.out 3
          have hfz24_4 := blk_frozen BK217.out 4
          have hfz24_5 := blk_frozen BK217.out 5
          have hfz24_6 := blk_frozen BK217.out 6
          have hfz24_7 := blk_frozen BK217.out 7
          have hfz24_8 := blk_frozen BK217.out 8
          have hfz24_9 := blk_frozen BK217.out 9
          have hfz24_10 := blk_frozen BK217.out 10
          have hfz24_11 := blk_frozen BK217.out 11
          go_wp2
          go_ret
          exact ⟨by first | rfl | (simp [errW_none, errW_some] <;> rfl) | (simp [*, errW_none, errW_some] <;> rfl), by repeat (first | (with_reducible first | exact HB.out | apply below_alloc | apply pw_below_drewN | apply below_drew1 | refine below_set ?_ GE217.out) | exact HB.out)⟩

end Go.Proofs.YtajndnaeknfogaaDoor.Q
namespace Go.Proofs.YtajndnaeknfogaaDoor.Q
open Go.RowKit Go.Proofs.YtajndnaeknfogaaDoorW.PrintWords Go.Proofs.YtajndnaeknfogaaDoorW.PrintLast Go.Proofs.YtajndnaeknfogaaDoorW.PrintMore
attribute [local go_sem] max2_int min2_int max_two min_two max_three min_three max_four min_four   -- for this text's walks alone
set_option linter.unusedVariables false
set_option linter.unusedSimpArgs false

/-! ### tidewaterref24_about: function 24 -/
def tidewaterref24_about.l0 : Nat → Int → Int → Bool → ByteArray → ByteArray → Option (Bool)
  | 0, _, _, _, _, _ => none
  | k + 1, x1, x5, x219000, x219001, x219002 => if x5 < (x219001.size : Int) then (if 0 ≤ x5 then (if (bt x219001 x5) = x1 then (some true) else (tidewaterref24_about.l0 k x1 (wrap64 (x5 + 1)) x219000 x219001 x219002)) else (none)) else (some false)
def tidewaterref24_about.f (k : Nat) (a0_0 : Bool) (a0_1 : ByteArray) (a0_2 : ByteArray) (a1 : Int) : Option (Bool) := if a0_1.toList = ([] : List UInt8) then (some true) else (tidewaterref24_about.l0 k a1 0 a0_0 a0_1 a0_2)
theorem tidewaterref24_about.mono_l : ∀ k, (∀ y0 y1 y2 y3 y4, LeO (tidewaterref24_about.l0 k y0 y1 y2 y3 y4) (tidewaterref24_about.l0 (k + 1) y0 y1 y2 y3 y4))
  | 0 => fun _ _ _ _ _ r h => by simp [tidewaterref24_about.l0] at h
  | k + 1 => by
    have ih0 := tidewaterref24_about.mono_l k
    · intro y0 y1 y2 y3 y4
      unfold tidewaterref24_about.l0
      repeat' first
      | (with_reducible exact ih0 _ _ _ _ _)
      | (with_reducible exact LeO.refl _)
      | (with_reducible exact LeO.none _)
      | (with_reducible refine LeO.ite ?_ ?_)
      | (with_reducible refine LeO.bind ?_ (fun _ => ?_))
      | exact ih0 _ _ _ _ _
      | exact LeO.none _
      | refine LeO.ite ?_ ?_
      | refine LeO.bind ?_ (fun _ => ?_)
theorem tidewaterref24_about.mono : ∀ a0 a1 a2 a3 k, LeO (tidewaterref24_about.f k a0 a1 a2 a3) (tidewaterref24_about.f (k + 1) a0 a1 a2 a3) := by
  intro a0 a1 a2 a3 k
  have ih0 := tidewaterref24_about.mono_l k
  unfold tidewaterref24_about.f
  repeat' first
      | (with_reducible exact ih0 _ _ _ _ _)
      | (with_reducible exact LeO.refl _)
      | (with_reducible exact LeO.none _)
      | (with_reducible refine LeO.ite ?_ ?_)
      | (with_reducible refine LeO.bind ?_ (fun _ => ?_))
      | exact ih0 _ _ _ _ _
      | exact LeO.none _
      | refine LeO.ite ?_ ?_
      | refine LeO.bind ?_ (fun _ => ?_)
set_option maxHeartbeats 8000000 in
set_option maxRecDepth 100000 in
theorem tidewaterref24_about.calls (k : Nat) (a0_0 : Bool) (a0_1 : ByteArray) (a0_2 : ByteArray) (a1 : Int) (r : Bool) (w : World) (h : tidewaterref24_about.f k a0_0 a0_1 a0_2 a1 = some r) :
    Calls Tryd.prog 24 #[.agg #[.bool a0_0, .string a0_1, .string a0_2], .int .u8 a1] w fun e w' => e = .returned (.bool r) ∧ Below w.heap.size w w' := by
  have hu35 := Tryd.underlying35
  have HB := Aside0.mk (Below.refl w.heap.size w)
  have H : (if a0_1.toList = ([] : List UInt8) then (some true) else (tidewaterref24_about.l0 k a1 0 a0_0 a0_1 a0_2)) = some r := h
  clear h
  by_cases c3 : a0_1.toList = ([] : List UInt8)
  · rw [if_pos c3] at H
    have c3b0 : (a0_1.toList == ([] : List UInt8)) = true := beq_iff_eq.mpr c3
    have c3b1 : (a0_1.toList != ([] : List UInt8)) = false := bne_eq_false_iff_eq.mpr c3
    clear c3
    obtain rfl := Option.some.inj H
    go_enter Tryd.func24, Tryd.ntmps24
    go_wp2_with (first | ((with_reducible refine gate_dst (N := 2) rfl ?_); refine box_event ?hg (N := 2) ?hd (cs := #[.bool a0_0, .string a0_1, .string a0_2]) (t := 35) ?hr ?_; (case hd => rfl); (case hg => rfl); (case hr => first | (go_simp; done) | (go_simp; rfl)); intro gb218 hg w4 hbox hb; have n0_ := Aside0.mk (below_step (by repeat (first | (with_reducible first | exact HB.out | apply below_alloc | apply pw_below_drewN | apply below_drew1) | exact HB.out)) hb); have n1_ := Aside0.mk (hbox); have n2_ := Aside0.mk ((by rw [hg]; exact (below_size (by repeat (first | (with_reducible first | exact HB.out | apply below_alloc | apply pw_below_drewN | apply below_drew1) | exact HB.out))) : w.heap.size ≤ gb218)); have n3_ := Aside0.mk ((by rw [hg]; exact (below_size (by repeat (first | (with_reducible first | exact HB.out | apply below_alloc | apply pw_below_drewN | apply below_drew1) | exact HB.out))) : w.heap.size ≤ gb218)); clear HB; have HB := n0_; have BK218 := n1_; have GW218 := n2_; have GE218 := n3_; clear n0_ n1_ n2_ n3_; clear hb hbox hg; have hcz5_0 : w4.cell? ⟨gb218, 0, none⟩ = some (.bool a0_0) := (blk_cell BK218.out 0).trans rfl; have hcz5_1 : w4.cell? ⟨gb218, 1, none⟩ = some (.string a0_1) := (blk_cell BK218.out 1).trans rfl; have hcz5_2 : w4.cell? ⟨gb218, 2, none⟩ = some (.string a0_2) := (blk_cell BK218.out 2).trans rfl; have hfz5_0 := blk_frozen BK218.out 0; have hfz5_1 := blk_frozen BK218.out 1; have hfz5_2 := blk_frozen BK218.out 2))
    go_ret
    exact ⟨by first | rfl | (simp [errW_none, errW_some] <;> rfl) | (simp [*, errW_none, errW_some] <;> rfl), by repeat (first | (with_reducible first | exact HB.out | apply below_alloc | apply pw_below_drewN | apply below_drew1 | refine below_set ?_ GE218.out) | exact HB.out)⟩
  · rw [if_neg c3] at H
    have c3b0 : (a0_1.toList == ([] : List UInt8)) = false := beq_eq_false_iff_ne.mpr c3
    have c3b1 : (a0_1.toList != ([] : List UInt8)) = true := bne_iff_ne.mpr c3
    have H' := Aside0.mk H
    clear H
    go_enter Tryd.func24, Tryd.ntmps24
    go_wp2_with (first | ((with_reducible refine gate_dst (N := 2) rfl ?_); refine box_event ?hg (N := 2) ?hd (cs := #[.bool a0_0, .string a0_1, .string a0_2]) (t := 35) ?hr ?_; (case hd => rfl); (case hg => rfl); (case hr => first | (go_simp; done) | (go_simp; rfl)); intro gb218 hg w6 hbox hb; have n0_ := Aside0.mk (below_step (by repeat (first | (with_reducible first | exact HB.out | apply below_alloc | apply pw_below_drewN | apply below_drew1) | exact HB.out)) hb); have n1_ := Aside0.mk (hbox); have n2_ := Aside0.mk ((by rw [hg]; exact (below_size (by repeat (first | (with_reducible first | exact HB.out | apply below_alloc | apply pw_below_drewN | apply below_drew1) | exact HB.out))) : w.heap.size ≤ gb218)); have n3_ := Aside0.mk ((by rw [hg]; exact (below_size (by repeat (first | (with_reducible first | exact HB.out | apply below_alloc | apply pw_below_drewN | apply below_drew1) | exact HB.out))) : w.heap.size ≤ gb218)); clear HB; have HB := n0_; have BK218 := n1_; have GW218 := n2_; have GE218 := n3_; clear n0_ n1_ n2_ n3_; clear hb hbox hg; have hcz7_0 : w6.cell? ⟨gb218, 0, none⟩ = some (.bool a0_0) := (blk_cell BK218.out 0).trans rfl; have hcz7_1 : w6.cell? ⟨gb218, 1, none⟩ = some (.string a0_1) := (blk_cell BK218.out 1).trans rfl; have hcz7_2 : w6.cell? ⟨gb218, 2, none⟩ = some (.string a0_2) := (blk_cell BK218.out 2).trans rfl; have hfz7_0 := blk_frozen BK218.out 0; have hfz7_1 := blk_frozen BK218.out 1; have hfz7_2 := blk_frozen BK218.out 2))
    go_loopg [5] k (fun kq v5 w' => ∃ (x5_1 : Int), v5 = .int .i64 x5_1 ∧ Aside0 (tidewaterref24_about.l0 kq a1 x5_1 a0_0 a0_1 a0_2 = some r) ∧ Aside0 (kq ≤ k) ∧ Aside0 (w'.heap[gb218]? = some (.cells #[.bool a0_0, .string a0_1, .string a0_2] 35 (0, 0))) ∧ Aside0 (Below w.heap.size w w'))
    case atStart => exact ⟨(0), (by first | rfl | (simp; done) | (simp [*]; done)), H', ⟨Nat.le_refl _⟩, ⟨by (with_reducible repeat (first | refine blk_drewN ?_ _ | refine blk_drew ?_ | refine blk_alloc ?_ _)); exact BK218.out⟩, ⟨by repeat (first | (with_reducible first | exact HB.out | apply below_alloc | apply pw_below_drewN | apply below_drew1 | refine below_set ?_ GE218.out) | exact HB.out)⟩⟩
    case round =>
      clear H'
      try clear c2
      try clear p2
      try clear c3
      try clear c3b0
      try clear c3b1
      try clear hcz5_0
      try clear hcz5_1
      try clear hcz5_2
      try clear hcz7_0
      try clear hcz7_1
      try clear hcz7_2
      try clear hfz5_0
      try clear hfz5_1
      try clear hfz5_2
      try clear hfz7_0
      try clear hfz7_1
      try clear hfz7_2
      obtain ⟨x5_1, rfl, HA, HK1, BK218, HB⟩ := hrel
      cases gk with
      | zero => exact absurd HA.out (by simp [tidewaterref24_about.l0])
      | succ k1 =>
        have H := HA.out
        clear HA
        simp only [tidewaterref24_about.l0] at H
        by_cases c8 : x5_1 < (a0_1.size : Int)
        · rw [if_pos c8] at H
          have c8b0 : decide (x5_1 < (a0_1.size : Int)) = true := decide_eq_true c8
          clear c8
          by_cases c9 : 0 ≤ x5_1
          · rw [if_pos c9] at H
            have c9b0 : decide (0 ≤ x5_1) = true := decide_eq_true c9
            clear c9
            by_cases c11 : (bt a0_1 x5_1) = a1
            · rw [if_pos c11] at H
              have c11b0 : ((bt a0_1 x5_1) == a1) = true := beq_iff_eq.mpr c11
              have c11b1 : ((bt a0_1 x5_1) != a1) = false := bne_eq_false_iff_eq.mpr c11
              clear c11
              obtain rfl := Option.some.inj H
              have hcz12_0 : wr.cell? ⟨gb218, 0, none⟩ = some (.bool a0_0) := (blk_cell BK218.out 0).trans rfl
              have hcz12_1 : wr.cell? ⟨gb218, 1, none⟩ = some (.string a0_1) := (blk_cell BK218.out 1).trans rfl
              have hcz12_2 : wr.cell? ⟨gb218, 2, none⟩ = some (.string a0_2) := (blk_cell BK218.out 2).trans rfl
              have hfz12_0 := blk_frozen BK218.out 0
              have hfz12_1 := blk_frozen BK218.out 1
              have hfz12_2 := blk_frozen BK218.out 2
              have p10 : 0 ≤ (x5_1 : Int) := of_decide_eq_true (by first | (with_reducible assumption) | assumption)
              have q10 : x5_1 < (a0_1.size : Int) := of_decide_eq_true (by first | (with_reducible assumption) | assumption)
              have hx10 := bt_at a0_1 x5_1
              replace p10 := eq_true p10
              replace q10 := eq_true q10
              go_wp2
              go_ret
              exact ⟨by first | rfl | (simp [errW_none, errW_some] <;> rfl) | (simp [*, errW_none, errW_some] <;> rfl), by repeat (first | (with_reducible first | exact HB.out | apply below_alloc | apply pw_below_drewN | apply below_drew1 | refine below_set ?_ GE218.out) | exact HB.out)⟩
            · rw [if_neg c11] at H
              have c11b0 : ((bt a0_1 x5_1) == a1) = false := beq_eq_false_iff_ne.mpr c11
              have c11b1 : ((bt a0_1 x5_1) != a1) = true := bne_iff_ne.mpr c11
              have H' := Aside0.mk H
              clear H
              have hcz13_0 : wr.cell? ⟨gb218, 0, none⟩ = some (.bool a0_0) := (blk_cell BK218.out 0).trans rfl
              have hcz13_1 : wr.cell? ⟨gb218, 1, none⟩ = some (.string a0_1) := (blk_cell BK218.out 1).trans rfl
              have hcz13_2 : wr.cell? ⟨gb218, 2, none⟩ = some (.string a0_2) := (blk_cell BK218.out 2).trans rfl
              have hfz13_0 := blk_frozen BK218.out 0
              have hfz13_1 := blk_frozen BK218.out 1
              have hfz13_2 := blk_frozen BK218.out 2
              have p10 : 0 ≤ (x5_1 : Int) := of_decide_eq_true (by first | (with_reducible assumption) | assumption)
              have q10 : x5_1 < (a0_1.size : Int) := of_decide_eq_true (by first | (with_reducible assumption) | assumption)
              have hx10 := bt_at a0_1 x5_1
              replace p10 := eq_true p10
              replace q10 := eq_true q10
              go_wp2
              go_roundg k1
              case measure => have := HK1.out; omega
              case rel => exact ⟨(wrap64 (x5_1 + 1)), (by first | rfl | (simp; done) | (simp [*]; done)), H', ⟨by have := HK1.out; omega⟩, ⟨by (with_reducible repeat (first | refine blk_drewN ?_ _ | refine blk_drew ?_ | refine blk_alloc ?_ _)); exact BK218.out⟩, ⟨by repeat (first | (with_reducible first | exact HB.out | apply below_alloc | apply pw_below_drewN | apply below_drew1 | refine below_set ?_ GE218.out) | exact HB.out)⟩⟩
          · rw [if_neg c9] at H
            exact absurd H (by simp)
        · rw [if_neg c8] at H
          have c8b0 : decide (x5_1 < (a0_1.size : Int)) = false := decide_eq_false c8
          clear c8
          obtain rfl := Option.some.inj H
          have hcz14_0 : wr.cell? ⟨gb218, 0, none⟩ = some (.bool a0_0) := (blk_cell BK218.out 0).trans rfl
          have hcz14_1 : wr.cell? ⟨gb218, 1, none⟩ = some (.string a0_1) := (blk_cell BK218.out 1).trans rfl
          have hcz14_2 : wr.cell? ⟨gb218, 2, none⟩ = some (.string a0_2) := (blk_cell BK218.out 2).trans rfl
          have hfz14_0 := blk_frozen BK218.out 0
          have hfz14_1 := blk_frozen BK218.out 1
          have hfz14_2 := blk_frozen BK218.out 2
          go_wp2
          go_ret
          exact ⟨by first | rfl | (simp [errW_none, errW_some] <;> rfl) | (simp [*, errW_none, errW_some] <;> rfl), by repeat (first | (with_reducible first | exact HB.out | apply below_alloc | apply pw_below_drewN | apply below_drew1 | refine below_set ?_ GE218.out) | exact HB.out)⟩

end Go.Proofs.YtajndnaeknfogaaDoor.Q
namespace Go.Proofs.YtajndnaeknfogaaDoor.Q
open Go.RowKit Go.Proofs.YtajndnaeknfogaaDoorW.PrintWords Go.Proofs.YtajndnaeknfogaaDoorW.PrintLast Go.Proofs.YtajndnaeknfogaaDoorW.PrintMore
attribute [local go_sem] max2_int min2_int max_two min_two max_three min_three max_four min_four   -- for this text's walks alone
set_option linter.unusedVariables false
set_option linter.unusedSimpArgs false

/-! ### tidewaterref24_kinds: function 37 -/
def tidewaterref24_kinds.l0 : Nat → ByteArray → List ByteArray → Int → Option (Bool)
  | 0, _, _, _ => none
  | k + 1, x0, x3, x4 => if x4 < (x3.length : Int) then (if 0 ≤ x4 then (if (rdOf ByteArray.empty x3 x4).toList = x0.toList then (some true) else (tidewaterref24_kinds.l0 k x0 x3 (wrap64 (x4 + 1)))) else (none)) else (some false)
def tidewaterref24_kinds.f (k : Nat) (a0 : ByteArray) : Option (Bool) := tidewaterref24_kinds.l0 k a0 (([(⟨#[]⟩ : ByteArray), (⟨#[112]⟩ : ByteArray), (⟨#[115]⟩ : ByteArray), (⟨#[113]⟩ : ByteArray), (⟨#[112, 115]⟩ : ByteArray), (⟨#[112, 113]⟩ : ByteArray), (⟨#[115, 113]⟩ : ByteArray), (⟨#[112, 115, 113]⟩ : ByteArray)] : List ByteArray)) 0
theorem tidewaterref24_kinds.mono_l : ∀ k, (∀ y0 y1 y2, LeO (tidewaterref24_kinds.l0 k y0 y1 y2) (tidewaterref24_kinds.l0 (k + 1) y0 y1 y2))
  | 0 => fun _ _ _ r h => by simp [tidewaterref24_kinds.l0] at h
  | k + 1 => by
    have ih0 := tidewaterref24_kinds.mono_l k
    · intro y0 y1 y2
      unfold tidewaterref24_kinds.l0
      repeat' first
      | (with_reducible exact ih0 _ _ _)
      | (with_reducible exact LeO.refl _)
      | (with_reducible exact LeO.none _)
      | (with_reducible refine LeO.ite ?_ ?_)
      | (with_reducible refine LeO.bind ?_ (fun _ => ?_))
      | exact ih0 _ _ _
      | exact LeO.none _
      | refine LeO.ite ?_ ?_
      | refine LeO.bind ?_ (fun _ => ?_)
theorem tidewaterref24_kinds.mono : ∀ a0 k, LeO (tidewaterref24_kinds.f k a0) (tidewaterref24_kinds.f (k + 1) a0) := by
  intro a0 k
  have ih0 := tidewaterref24_kinds.mono_l k
  unfold tidewaterref24_kinds.f
  repeat' first
      | (with_reducible exact ih0 _ _ _)
      | (with_reducible exact LeO.refl _)
      | (with_reducible exact LeO.none _)
      | (with_reducible refine LeO.ite ?_ ?_)
      | (with_reducible refine LeO.bind ?_ (fun _ => ?_))
      | exact ih0 _ _ _
      | exact LeO.none _
      | refine LeO.ite ?_ ?_
      | refine LeO.bind ?_ (fun _ => ?_)
set_option maxHeartbeats 8000000 in
set_option maxRecDepth 100000 in
theorem tidewaterref24_kinds.calls (k : Nat) (a0 : ByteArray) (r : Bool) (w : World) (h : tidewaterref24_kinds.f k a0 = some r) :
    Calls Tryd.prog 37 #[.string a0] w fun e w' => e = .returned (.bool r) ∧ Below w.heap.size w w' := by
  have HB := Aside0.mk (Below.refl w.heap.size w)
  have H : (tidewaterref24_kinds.l0 k a0 (([(⟨#[]⟩ : ByteArray), (⟨#[112]⟩ : ByteArray), (⟨#[115]⟩ : ByteArray), (⟨#[113]⟩ : ByteArray), (⟨#[112, 115]⟩ : ByteArray), (⟨#[112, 113]⟩ : ByteArray), (⟨#[115, 113]⟩ : ByteArray), (⟨#[112, 115, 113]⟩ : ByteArray)] : List ByteArray)) 0) = some r := h
  clear h
  obtain ⟨y208, hy208⟩ : ∃ y_ : List ByteArray, y_ = (([(⟨#[]⟩ : ByteArray), (⟨#[112]⟩ : ByteArray), (⟨#[115]⟩ : ByteArray), (⟨#[113]⟩ : ByteArray), (⟨#[112, 115]⟩ : ByteArray), (⟨#[112, 113]⟩ : ByteArray), (⟨#[115, 113]⟩ : ByteArray), (⟨#[112, 115, 113]⟩ : ByteArray)] : List ByteArray)) := ⟨_, rfl⟩
  replace H : (tidewaterref24_kinds.l0 k a0 y208 0) = some r := by first | (rw [hy208]; with_reducible exact H) | (have H2_ := (Option.bind_some _ _).symm.trans H; rw [hy208]; with_reducible exact H2_) | (have H2_ := (Option.bind_some _ _).symm.trans H; with_reducible exact H2_) | with_reducible exact H | (rw [hy208]; exact H) | exact H
  have Ny208 := Aside0.mk hy208
  clear hy208
  have H' := Aside0.mk H
  clear H
  go_enter Tryd.func37, Tryd.ntmps37
  go_wp2_with (first | ((with_reducible refine gate_dst (N := 5) rfl ?_); refine Kd.R_lit Kd.string _ 9 ?hg (N := 5) ?hd (xs := ([(⟨#[]⟩ : ByteArray), (⟨#[112]⟩ : ByteArray), (⟨#[115]⟩ : ByteArray), (⟨#[113]⟩ : ByteArray), (⟨#[112, 115]⟩ : ByteArray), (⟨#[112, 113]⟩ : ByteArray), (⟨#[115, 113]⟩ : ByteArray), (⟨#[112, 115, 113]⟩ : ByteArray)] : List ByteArray)) (inner := [.string (⟨#[]⟩ : ByteArray), .string (⟨#[112]⟩ : ByteArray), .string (⟨#[115]⟩ : ByteArray), .string (⟨#[113]⟩ : ByteArray), .string (⟨#[112, 115]⟩ : ByteArray), .string (⟨#[112, 113]⟩ : ByteArray), .string (⟨#[115, 113]⟩ : ByteArray), .string (⟨#[112, 115, 113]⟩ : ByteArray)]) (ok := fun _ => True) (okp := fun _ => True) ?hr ?hp (fun _ hk => hk) trivial (Below.refl _ _) (Nat.le_refl _) (by simp) ?_; (case hd => rfl); (case hg => rfl); (case hr => first | (go_simp; done) | (go_simp; rfl)); (case hp => exact (Reps.one (show Kd.M Kd.string _ _ _ (⟨#[]⟩ : ByteArray) [.string (⟨#[]⟩ : ByteArray)] from rfl) (Reps.one (show Kd.M Kd.string _ _ _ (⟨#[112]⟩ : ByteArray) [.string (⟨#[112]⟩ : ByteArray)] from rfl) (Reps.one (show Kd.M Kd.string _ _ _ (⟨#[115]⟩ : ByteArray) [.string (⟨#[115]⟩ : ByteArray)] from rfl) (Reps.one (show Kd.M Kd.string _ _ _ (⟨#[113]⟩ : ByteArray) [.string (⟨#[113]⟩ : ByteArray)] from rfl) (Reps.one (show Kd.M Kd.string _ _ _ (⟨#[112, 115]⟩ : ByteArray) [.string (⟨#[112, 115]⟩ : ByteArray)] from rfl) (Reps.one (show Kd.M Kd.string _ _ _ (⟨#[112, 113]⟩ : ByteArray) [.string (⟨#[112, 113]⟩ : ByteArray)] from rfl) (Reps.one (show Kd.M Kd.string _ _ _ (⟨#[115, 113]⟩ : ByteArray) [.string (⟨#[115, 113]⟩ : ByteArray)] from rfl) (Reps.one (show Kd.M Kd.string _ _ _ (⟨#[112, 115, 113]⟩ : ByteArray) [.string (⟨#[112, 115, 113]⟩ : ByteArray)] from rfl) (Reps.none _ _)))))))))); intro v209 w2 ho3 hb hg_ hnew_; clear hg_ hnew_; (first | rw [← Ny208.out] at ho3 | (simp only [Int.reduceToNat] at ho3; rw [← Ny208.out] at ho3)); have n0_ := Aside0.mk (Kd.R_lower ho3 (below_size (by repeat (first | (with_reducible first | exact HB.out | apply below_alloc | apply pw_below_drewN | apply below_drew1) | exact HB.out)))); have n1_ := Aside0.mk (below_step (by repeat (first | (with_reducible first | exact HB.out | apply below_alloc | apply pw_below_drewN | apply below_drew1) | exact HB.out)) hb); clear HB; have HO210 := n0_; have HB := n1_; clear n0_ n1_; clear hb ho3))
  go_loopg [4] k (fun kq v4 w' => ∃ (x4_1 : Int), v4 = .int .i64 x4_1 ∧ Aside0 (tidewaterref24_kinds.l0 kq a0 y208 x4_1 = some r) ∧ Aside0 (kq ≤ k) ∧ Aside0 (Kd.R Kd.string 9 w' w.heap.size (fun _ => True) v209 y208) ∧ Aside0 (Below w.heap.size w w'))
  case atStart => exact ⟨(0), (by first | rfl | (simp; done) | (simp [*]; done)), H', ⟨Nat.le_refl _⟩, ⟨by (with_reducible repeat (first | apply Kd.R_alloc | apply Kd.R_drewN | apply Kd.R_drew)); exact HO210.out⟩, ⟨by repeat (first | (with_reducible first | exact HB.out | apply below_alloc | apply pw_below_drewN | apply below_drew1) | exact HB.out)⟩⟩
  case round =>
    clear H'
    try clear p2
    try clear c3
    obtain ⟨x4_1, rfl, HA, HK1, HO_3, HB⟩ := hrel
    cases gk with
    | zero => exact absurd HA.out (by simp [tidewaterref24_kinds.l0])
    | succ k1 =>
      have H := HA.out
      clear HA
      simp only [tidewaterref24_kinds.l0] at H
      by_cases c4 : x4_1 < (y208.length : Int)
      · rw [if_pos c4] at H
        have c4b0 : decide (x4_1 < (y208.length : Int)) = true := decide_eq_true c4
        clear c4
        by_cases c5 : 0 ≤ x4_1
        · rw [if_pos c5] at H
          have c5b0 : decide (0 ≤ x4_1) = true := decide_eq_true c5
          clear c5
          by_cases c6 : (rdOf ByteArray.empty y208 x4_1).toList = a0.toList
          · rw [if_pos c6] at H
            have c6b0 : ((rdOf ByteArray.empty y208 x4_1).toList == a0.toList) = true := beq_iff_eq.mpr c6
            have c6b1 : ((rdOf ByteArray.empty y208 x4_1).toList != a0.toList) = false := bne_eq_false_iff_eq.mpr c6
            clear c6
            obtain rfl := Option.some.inj H
            obtain ⟨Ao7, co7, eo7⟩ := Kd.R_slice HO_3.out
            subst eo7
            have p211 : 0 ≤ (x4_1 : Int) := of_decide_eq_true (by first | (with_reducible assumption) | assumption)
            have q211 : x4_1 < (y208.length : Int) := of_decide_eq_true (by first | (with_reducible assumption) | assumption)
            obtain ⟨ad211, e211, hx211_0⟩ := Kd.at_string (Kd.R_reads' HO_3.out).2.2 x4_1 p211 q211
            cases e211
            replace p211 := eq_true p211
            replace q211 := eq_true q211
            go_wp2
            go_ret
            exact ⟨by first | rfl | (simp [errW_none, errW_some] <;> rfl) | (simp [*, errW_none, errW_some] <;> rfl), by repeat (first | (with_reducible first | exact HB.out | apply below_alloc | apply pw_below_drewN | apply below_drew1) | exact HB.out)⟩
          · rw [if_neg c6] at H
            have c6b0 : ((rdOf ByteArray.empty y208 x4_1).toList == a0.toList) = false := beq_eq_false_iff_ne.mpr c6
            have c6b1 : ((rdOf ByteArray.empty y208 x4_1).toList != a0.toList) = true := bne_iff_ne.mpr c6
            have H' := Aside0.mk H
            clear H
            obtain ⟨Ao8, co8, eo8⟩ := Kd.R_slice HO_3.out
            subst eo8
            have p211 : 0 ≤ (x4_1 : Int) := of_decide_eq_true (by first | (with_reducible assumption) | assumption)
            have q211 : x4_1 < (y208.length : Int) := of_decide_eq_true (by first | (with_reducible assumption) | assumption)
            obtain ⟨ad211, e211, hx211_0⟩ := Kd.at_string (Kd.R_reads' HO_3.out).2.2 x4_1 p211 q211
            cases e211
            replace p211 := eq_true p211
            replace q211 := eq_true q211
            go_wp2
            go_roundg k1
            case measure => have := HK1.out; omega
            case rel => exact ⟨(wrap64 (x4_1 + 1)), (by first | rfl | (simp; done) | (simp [*]; done)), H', ⟨by have := HK1.out; omega⟩, ⟨by (with_reducible repeat (first | apply Kd.R_alloc | apply Kd.R_drewN | apply Kd.R_drew)); exact HO_3.out⟩, ⟨by repeat (first | (with_reducible first | exact HB.out | apply below_alloc | apply pw_below_drewN | apply below_drew1) | exact HB.out)⟩⟩
        · rw [if_neg c5] at H
          exact absurd H (by simp)
      · rw [if_neg c4] at H
        have c4b0 : decide (x4_1 < (y208.length : Int)) = false := decide_eq_false c4
        clear c4
        obtain rfl := Option.some.inj H
        obtain ⟨Ao9, co9, eo9⟩ := Kd.R_slice HO_3.out
        subst eo9
        go_wp2
        go_ret
        exact ⟨by first | rfl | (simp [errW_none, errW_some] <;> rfl) | (simp [*, errW_none, errW_some] <;> rfl), by repeat (first | (with_reducible first | exact HB.out | apply below_alloc | apply pw_below_drewN | apply below_drew1) | exact HB.out)⟩

end Go.Proofs.YtajndnaeknfogaaDoor.Q
namespace Go.Proofs.YtajndnaeknfogaaDoor.Q
open Go.RowKit Go.Proofs.YtajndnaeknfogaaDoorW.PrintWords Go.Proofs.YtajndnaeknfogaaDoorW.PrintLast Go.Proofs.YtajndnaeknfogaaDoorW.PrintMore
attribute [local go_sem] max2_int min2_int max_two min_two max_three min_three max_four min_four   -- for this text's walks alone
set_option linter.unusedVariables false
set_option linter.unusedSimpArgs false

/-! ### tidewaterlaw24_back: function 12 -/
def tidewaterlaw24_back.l0 : Nat → List (S35) → List (S37) → Int → Option ((List (S37)))
  | 0, _, _, _ => none
  | k + 1, x0, x3, x4 => if x4 < (x0.length : Int) then (if x4 < 40 then (if 0 ≤ x4 then (if x3.length < 3518437208883 then (tidewaterlaw24_back.l0 k x0 (x3 ++ [(⟨(rd_T35 x0 x4).f0, (rd_T35 x0 x4).f1, (rd_T35 x0 x4).f2⟩ : S37)]) (wrap64 (x4 + 1))) else (none)) else (none)) else (some x3)) else (some x3)
def tidewaterlaw24_back.f (k : Nat) (l0 : List (S35)) : Option ((List (S37))) := tidewaterlaw24_back.l0 k l0 ([] : List (S37)) 0
theorem tidewaterlaw24_back.mono_l : ∀ k, (∀ y0 y1 y2, LeO (tidewaterlaw24_back.l0 k y0 y1 y2) (tidewaterlaw24_back.l0 (k + 1) y0 y1 y2))
  | 0 => fun _ _ _ r h => by simp [tidewaterlaw24_back.l0] at h
  | k + 1 => by
    have ih0 := tidewaterlaw24_back.mono_l k
    · intro y0 y1 y2
      unfold tidewaterlaw24_back.l0
      repeat' first
      | (with_reducible exact ih0 _ _ _)
      | (with_reducible exact LeO.refl _)
      | (with_reducible exact LeO.none _)
      | (with_reducible refine LeO.ite ?_ ?_)
      | (with_reducible refine LeO.bind ?_ (fun _ => ?_))
      | exact ih0 _ _ _
      | exact LeO.none _
      | refine LeO.ite ?_ ?_
      | refine LeO.bind ?_ (fun _ => ?_)
theorem tidewaterlaw24_back.mono : ∀ a0 k, LeO (tidewaterlaw24_back.f k a0) (tidewaterlaw24_back.f (k + 1) a0) := by
  intro a0 k
  have ih0 := tidewaterlaw24_back.mono_l k
  unfold tidewaterlaw24_back.f
  repeat' first
      | (with_reducible exact ih0 _ _ _)
      | (with_reducible exact LeO.refl _)
      | (with_reducible exact LeO.none _)
      | (with_reducible refine LeO.ite ?_ ?_)
      | (with_reducible refine LeO.bind ?_ (fun _ => ?_))
      | exact ih0 _ _ _
      | exact LeO.none _
      | refine LeO.ite ?_ ?_
      | refine LeO.bind ?_ (fun _ => ?_)
def tidewaterlaw24_back.T5 : Bool × List (List Nat × List Nat) := (true, [([], []), ([], []), ([], []), ([1, 2], [1, 2]), ([3], [3]), ([4], [4]), ([], []), ([], []), ([6, 7], [6, 7]), ([8], [8]), ([9], [9]), ([], []), ([], []), ([11, 12], [11, 12]), ([13], [13]), ([14], [14]), ([5, 10, 15], [5, 10, 15]), ([16], [16]), ([0, 17], [0, 17]), ([18, 18, 0, 1, 2, 3, 4, 5, 6, 7, 8, 9, 10, 11, 12, 13, 14, 15, 16, 17, 18], [0, 18])])
def tidewaterlaw24_back.B5 : List Nat := [0, 0, 0, 6, 14, 30, 0, 0, 192, 448, 960, 0, 0, 6144, 14336, 30720, 65534, 131070, 262143, 524287]
theorem tidewaterlaw24_back.tab5 : rtab .any (opsOf Tryd.f12 5) = tidewaterlaw24_back.T5 := by kernel_rfl
theorem tidewaterlaw24_back.bits5 : waitsOk tidewaterlaw24_back.T5.2 tidewaterlaw24_back.B5 = true := by kernel_rfl
set_option maxHeartbeats 8000000 in
set_option maxRecDepth 100000 in
theorem tidewaterlaw24_back.calls (k : Nat) (A0 : Option Addr) (c0 : Nat) (l0 : List (S35)) (r : List (S37)) (w : World) (hr0 : Kd.C k35 w A0 l0.length l0) (hc0 : l0.length ≤ c0) (h : tidewaterlaw24_back.f k l0 = some r) :
    Calls Tryd.prog 12 #[.slice A0 l0.length c0] w fun e w' => ∃ v0_ : Value, e = .returned (v0_) ∧ Kd.R k37 37 w' w.heap.size (fun _ => True) v0_ r ∧ Below w.heap.size w w' := by
  have hu37 := Tryd.underlying37
  have HR0 := Aside0.mk hr0
  have HC0 := Aside0.mk hc0
  clear hr0 hc0
  have HB := Aside0.mk (Below.refl w.heap.size w)
  have H : (tidewaterlaw24_back.l0 k l0 ([] : List (S37)) 0) = some r := h
  clear h
  have H' := Aside0.mk H
  clear H
  go_enter Tryd.func12, Tryd.ntmps12
  go_wp2
  go_loopg [3, 4] k (fun kq v3 v4 w' => ∃ (x3_1 : List (S37)) (x4_1 : Int), v4 = .int .i64 x4_1 ∧ Aside0 (tidewaterlaw24_back.l0 kq l0 x3_1 x4_1 = some r) ∧ Aside0 (kq ≤ k) ∧ Aside0 (Kd.R k37 37 w' w.heap.size (fun _ => True) v3 x3_1) ∧ Aside0 (Below w.heap.size w w'))
  case atStart => exact ⟨(([] : List (S37))), (0), (by first | rfl | (simp; done) | (simp [*]; done)), H', ⟨Nat.le_refl _⟩, ⟨by first | exact Kd.R_nil _ _ _ _ _ | exact Kd.N_nil _ _ _ _ _ | exact Kd.V_nil _ _ _ _ _ | exact Kd.Q_nil _ _ _ _ _ | exact Kd.S_nil _ _ _ _ _⟩, ⟨by repeat (first | (with_reducible first | exact HB.out | apply below_alloc | apply pw_below_drewN | apply below_drew1) | exact HB.out)⟩⟩
  case round =>
    clear H'
    try clear c1
    obtain ⟨x3_1, x4_1, rfl, HA, HK1, HO_3, HB⟩ := hrel
    cases gk with
    | zero => exact absurd HA.out (by simp [tidewaterlaw24_back.l0])
    | succ k1 =>
      have H := HA.out
      clear HA
      simp only [tidewaterlaw24_back.l0] at H
      by_cases c2 : x4_1 < (l0.length : Int)
      · rw [if_pos c2] at H
        have c2b0 : decide (x4_1 < (l0.length : Int)) = true := decide_eq_true c2
        clear c2
        by_cases c3 : x4_1 < 40
        · rw [if_pos c3] at H
          have c3b0 : decide (x4_1 < 40) = true := decide_eq_true c3
          clear c3
          by_cases c4 : 0 ≤ x4_1
          · rw [if_pos c4] at H
            have c4b0 : decide (0 ≤ x4_1) = true := decide_eq_true c4
            clear c4
            by_cases c5 : x3_1.length < 3518437208883
            · rw [if_pos c5] at H
              have LMc5 := Aside0.mk c5
              clear c5
              obtain ⟨y228, hy228⟩ : ∃ y_ : List (S37), y_ = (x3_1 ++ [(⟨(rd_T35 l0 x4_1).f0, (rd_T35 l0 x4_1).f1, (rd_T35 l0 x4_1).f2⟩ : S37)]) := ⟨_, rfl⟩
              replace H : (tidewaterlaw24_back.l0 k1 l0 y228 (wrap64 (x4_1 + 1))) = some r := by first | (rw [hy228]; with_reducible exact H) | (have H2_ := (Option.bind_some _ _).symm.trans H; rw [hy228]; with_reducible exact H2_) | (have H2_ := (Option.bind_some _ _).symm.trans H; with_reducible exact H2_) | with_reducible exact H | (rw [hy228]; exact H) | exact H
              have Ny228 := Aside0.mk hy228
              clear hy228
              have H' := Aside0.mk H
              clear H
              try go_wp2
              have n0_ := Aside0.mk (Kd.R_drew HO_3.out)
              have n1_ := Aside0.mk (below_drew1 HB.out)
              clear HO_3
              clear HB
              have HO_3 := n0_
              have HB := n1_
              clear n0_ n1_
              have p225 : 0 ≤ (x4_1 : Int) := of_decide_eq_true (by first | (with_reducible assumption) | assumption)
              have q225 : x4_1 < (l0.length : Int) := of_decide_eq_true (by first | (with_reducible assumption) | assumption)
              obtain ⟨ad225, e225, hx225_0, hx225_1, hx225_2⟩ := at_T35 HR0.out x4_1 p225 q225
              have hw225_2 := hx225_2
              have hw225_1 := hx225_1
              have hw225_0 := hx225_0
              cases e225
              replace hx225_0 := (HB.out.cell (World.block_lt_of_cell? w _ hx225_0)).trans hx225_0
              replace hx225_1 := (HB.out.cell (World.block_lt_of_cell? w _ hx225_1)).trans hx225_1
              replace hx225_2 := (HB.out.cell (World.block_lt_of_cell? w _ hx225_2)).trans hx225_2
              replace p225 := eq_true p225
              replace q225 := eq_true q225
              have p226 : 0 ≤ (x4_1 : Int) := of_decide_eq_true (by first | (with_reducible assumption) | assumption)
              have q226 : x4_1 < (l0.length : Int) := of_decide_eq_true (by first | (with_reducible assumption) | assumption)
              obtain ⟨ad226, e226, hx226_0, hx226_1, hx226_2⟩ := at_T35 HR0.out x4_1 p226 q226
              have hw226_2 := hx226_2
              have hw226_1 := hx226_1
              have hw226_0 := hx226_0
              obtain rfl : ad225 = ad226 := (by injection e226)
              replace hx226_0 := (HB.out.cell (World.block_lt_of_cell? w _ hx226_0)).trans hx226_0
              replace hx226_1 := (HB.out.cell (World.block_lt_of_cell? w _ hx226_1)).trans hx226_1
              replace hx226_2 := (HB.out.cell (World.block_lt_of_cell? w _ hx226_2)).trans hx226_2
              replace p226 := eq_true p226
              replace q226 := eq_true q226
              have p227 : 0 ≤ (x4_1 : Int) := of_decide_eq_true (by first | (with_reducible assumption) | assumption)
              have q227 : x4_1 < (l0.length : Int) := of_decide_eq_true (by first | (with_reducible assumption) | assumption)
              obtain ⟨ad227, e227, hx227_0, hx227_1, hx227_2⟩ := at_T35 HR0.out x4_1 p227 q227
              have hw227_2 := hx227_2
              have hw227_1 := hx227_1
              have hw227_0 := hx227_0
              obtain rfl : ad225 = ad227 := (by injection e227)
              replace hx227_0 := (HB.out.cell (World.block_lt_of_cell? w _ hx227_0)).trans hx227_0
              replace hx227_1 := (HB.out.cell (World.block_lt_of_cell? w _ hx227_1)).trans hx227_1
              replace hx227_2 := (HB.out.cell (World.block_lt_of_cell? w _ hx227_2)).trans hx227_2
              replace p227 := eq_true p227
              replace q227 := eq_true q227
              refine start_ (n := 20) (S := fun w' => w'.cell? (ad225.add ((x4_1).toNat * 3)) = some (.bool ((rd_T35 l0 x4_1).f0)) ∧ w'.cell? ⟨(ad225.add ((x4_1).toNat * 3)).block, (ad225.add ((x4_1).toNat * 3)).off + 1, none⟩ = some (.string ((rd_T35 l0 x4_1).f1)) ∧ w'.cell? ⟨(ad225.add ((x4_1).toNat * 3)).block, (ad225.add ((x4_1).toNat * 3)).off + 2, none⟩ = some (.string ((rd_T35 l0 x4_1).f2)) ∧ w'.cell? (ad225.add ((x4_1).toNat * 3)) = some (.bool ((rd_T35 l0 x4_1).f0)) ∧ w'.cell? ⟨(ad225.add ((x4_1).toNat * 3)).block, (ad225.add ((x4_1).toNat * 3)).off + 1, none⟩ = some (.string ((rd_T35 l0 x4_1).f1)) ∧ w'.cell? ⟨(ad225.add ((x4_1).toNat * 3)).block, (ad225.add ((x4_1).toNat * 3)).off + 2, none⟩ = some (.string ((rd_T35 l0 x4_1).f2)) ∧ w'.cell? (ad225.add ((x4_1).toNat * 3)) = some (.bool ((rd_T35 l0 x4_1).f0)) ∧ w'.cell? ⟨(ad225.add ((x4_1).toNat * 3)).block, (ad225.add ((x4_1).toNat * 3)).off + 1, none⟩ = some (.string ((rd_T35 l0 x4_1).f1)) ∧ w'.cell? ⟨(ad225.add ((x4_1).toNat * 3)).block, (ad225.add ((x4_1).toNat * 3)).off + 2, none⟩ = some (.string ((rd_T35 l0 x4_1).f2))) (ds := []) #[false, false, false, false, false, false, false, false, false, false, false, false, false, false, false, false, false, false, false, false] (by kernel_rfl) rfl rfl ⟨((HB.out.cell (World.block_lt_of_cell? w _ hw225_0)).trans hw225_0), ((HB.out.cell (World.block_lt_of_cell? w _ hw225_1)).trans hw225_1), ((HB.out.cell (World.block_lt_of_cell? w _ hw225_2)).trans hw225_2), ((HB.out.cell (World.block_lt_of_cell? w _ hw226_0)).trans hw226_0), ((HB.out.cell (World.block_lt_of_cell? w _ hw226_1)).trans hw226_1), ((HB.out.cell (World.block_lt_of_cell? w _ hw226_2)).trans hw226_2), ((HB.out.cell (World.block_lt_of_cell? w _ hw227_0)).trans hw227_0), ((HB.out.cell (World.block_lt_of_cell? w _ hw227_1)).trans hw227_1), ((HB.out.cell (World.block_lt_of_cell? w _ hw227_2)).trans hw227_2)⟩ (fun hHeld => ?_); refine with_tabW tidewaterlaw24_back.tab5 tidewaterlaw24_back.bits5 (fun HT_ HW_ => ?_)
              generalize wr.drew = w6 at HO_3 HB hx225_0 hx225_1 hx225_2 hx226_0 hx226_1 hx226_2 hx227_0 hx227_1 hx227_2 hHeld ⊢
              refine pure_ (i := 0) (N := some 15) (v := ?_) (a' := ?_) #[true, false, false, false, false, false, false, false, false, false, false, false, false, false, false, false, false, false, false, false] rfl rfl (any_of HT_.out (by kernel_rfl)) (fun _ _ _ h => h) (Or.inl ⟨by rfl, ?_⟩) ?_ ?_
              rotate_left
              · intro w'
                go_simp
                with_reducible rfl
              rotate_left
              · simp only [Act.put, List.setIfInBounds_toArray, List.set_cons_zero, List.set_cons_succ, i64_w, i32_w]
                rfl
              refine pure_ (i := 1) (N := some 16) (v := ?_) (a' := ?_) #[true, true, false, false, false, false, false, false, false, false, false, false, false, false, false, false, false, false, false, false] rfl rfl (any_of HT_.out (by kernel_rfl)) (fun _ _ _ h => h) (Or.inl ⟨by rfl, ?_⟩) ?_ ?_
              rotate_left
              · intro w'
                go_simp
                with_reducible rfl
              rotate_left
              · simp only [Act.put, List.setIfInBounds_toArray, List.set_cons_zero, List.set_cons_succ, i64_w, i32_w]
                rfl
              refine pure_ (i := 2) (N := some 17) (v := ?_) (a' := ?_) #[true, true, true, false, false, false, false, false, false, false, false, false, false, false, false, false, false, false, false, false] rfl rfl (any_of HT_.out (by kernel_rfl)) (fun _ _ _ h => h) (Or.inl ⟨by rfl, ?_⟩) ?_ ?_
              rotate_left
              · intro w'
                go_simp
                with_reducible rfl
              rotate_left
              · simp only [Act.put, List.setIfInBounds_toArray, List.set_cons_zero, List.set_cons_succ, i64_w, i32_w]
                rfl
              refine pure_ (i := 3) (N := some 18) (v := ?_) (a' := ?_) #[true, true, true, true, false, false, false, false, false, false, false, false, false, false, false, false, false, false, false, false] rfl rfl (any_of HT_.out (by kernel_rfl)) (fun _ _ _ h => h) (Or.inl ⟨by rfl, ?_⟩) ?_ ?_
              rotate_left
              · intro w'
                go_simp
                with_reducible rfl
              rotate_left
              · simp only [Act.put, List.setIfInBounds_toArray, List.set_cons_zero, List.set_cons_succ, i64_w, i32_w]
                rfl
              refine pure_ (i := 4) (N := some 19) (v := ?_) (a' := ?_) #[true, true, true, true, true, false, false, false, false, false, false, false, false, false, false, false, false, false, false, false] rfl rfl (any_of HT_.out (by kernel_rfl)) (fun _ _ _ h => h) (Or.inl ⟨by rfl, ?_⟩) ?_ ?_
              rotate_left
              · intro w'
                go_simp
                with_reducible rfl
              rotate_left
              · simp only [Act.put, List.setIfInBounds_toArray, List.set_cons_zero, List.set_cons_succ, i64_w, i32_w]
                rfl
              refine pure_ (i := 6) (N := some 21) (v := ?_) (a' := ?_) #[true, true, true, true, true, false, true, false, false, false, false, false, false, false, false, false, false, false, false, false] rfl rfl (any_of HT_.out (by kernel_rfl)) (fun _ _ _ h => h) (Or.inl ⟨by rfl, ?_⟩) ?_ ?_
              rotate_left
              · intro w'
                go_simp
                with_reducible rfl
              rotate_left
              · simp only [Act.put, List.setIfInBounds_toArray, List.set_cons_zero, List.set_cons_succ, i64_w, i32_w]
                rfl
              refine pure_ (i := 7) (N := some 22) (v := ?_) (a' := ?_) #[true, true, true, true, true, false, true, true, false, false, false, false, false, false, false, false, false, false, false, false] rfl rfl (any_of HT_.out (by kernel_rfl)) (fun _ _ _ h => h) (Or.inl ⟨by rfl, ?_⟩) ?_ ?_
              rotate_left
              · intro w'
                go_simp
                with_reducible rfl
              rotate_left
              · simp only [Act.put, List.setIfInBounds_toArray, List.set_cons_zero, List.set_cons_succ, i64_w, i32_w]
                rfl
              refine pure_ (i := 8) (N := some 23) (v := ?_) (a' := ?_) #[true, true, true, true, true, false, true, true, true, false, false, false, false, false, false, false, false, false, false, false] rfl rfl (any_of HT_.out (by kernel_rfl)) (fun _ _ _ h => h) (Or.inl ⟨by rfl, ?_⟩) ?_ ?_
              rotate_left
              · intro w'
                go_simp
                with_reducible rfl
              rotate_left
              · simp only [Act.put, List.setIfInBounds_toArray, List.set_cons_zero, List.set_cons_succ, i64_w, i32_w]
                rfl
              refine pure_ (i := 9) (N := some 24) (v := ?_) (a' := ?_) #[true, true, true, true, true, false, true, true, true, true, false, false, false, false, false, false, false, false, false, false] rfl rfl (any_of HT_.out (by kernel_rfl)) (fun _ _ _ h => h) (Or.inl ⟨by rfl, ?_⟩) ?_ ?_
              rotate_left
              · intro w'
                go_simp
                with_reducible rfl
              rotate_left
              · simp only [Act.put, List.setIfInBounds_toArray, List.set_cons_zero, List.set_cons_succ, i64_w, i32_w]
                rfl
              refine pure_ (i := 11) (N := some 26) (v := ?_) (a' := ?_) #[true, true, true, true, true, false, true, true, true, true, false, true, false, false, false, false, false, false, false, false] rfl rfl (any_of HT_.out (by kernel_rfl)) (fun _ _ _ h => h) (Or.inl ⟨by rfl, ?_⟩) ?_ ?_
              rotate_left
              · intro w'
                go_simp
                with_reducible rfl
              rotate_left
              · simp only [Act.put, List.setIfInBounds_toArray, List.set_cons_zero, List.set_cons_succ, i64_w, i32_w]
                rfl
              refine pure_ (i := 12) (N := some 27) (v := ?_) (a' := ?_) #[true, true, true, true, true, false, true, true, true, true, false, true, true, false, false, false, false, false, false, false] rfl rfl (any_of HT_.out (by kernel_rfl)) (fun _ _ _ h => h) (Or.inl ⟨by rfl, ?_⟩) ?_ ?_
              rotate_left
              · intro w'
                go_simp
                with_reducible rfl
              rotate_left
              · simp only [Act.put, List.setIfInBounds_toArray, List.set_cons_zero, List.set_cons_succ, i64_w, i32_w]
                rfl
              refine pure_ (i := 13) (N := some 28) (v := ?_) (a' := ?_) #[true, true, true, true, true, false, true, true, true, true, false, true, true, true, false, false, false, false, false, false] rfl rfl (any_of HT_.out (by kernel_rfl)) (fun _ _ _ h => h) (Or.inl ⟨by rfl, ?_⟩) ?_ ?_
              rotate_left
              · intro w'
                go_simp
                with_reducible rfl
              rotate_left
              · simp only [Act.put, List.setIfInBounds_toArray, List.set_cons_zero, List.set_cons_succ, i64_w, i32_w]
                rfl
              refine pure_ (i := 14) (N := some 29) (v := ?_) (a' := ?_) #[true, true, true, true, true, false, true, true, true, true, false, true, true, true, true, false, false, false, false, false] rfl rfl (any_of HT_.out (by kernel_rfl)) (fun _ _ _ h => h) (Or.inl ⟨by rfl, ?_⟩) ?_ ?_
              rotate_left
              · intro w'
                go_simp
                with_reducible rfl
              rotate_left
              · simp only [Act.put, List.setIfInBounds_toArray, List.set_cons_zero, List.set_cons_succ, i64_w, i32_w]
                rfl
              refine take_ (i := 5) (N := some 20) (v := ?_) (a' := ?_) #[true, true, true, true, true, true, true, true, true, true, false, true, true, true, true, false, false, false, false, false] rfl rfl (take_ofW HT_.out HW_.out (by kernel_rfl)) (fun _ _ _ h => h) (Or.inl ⟨by rfl, ?_⟩) hHeld ?_ ?_
              rotate_left
              · rintro w' ⟨s0, s1, s2, s3, s4, s5, s6, s7, s8⟩
                go_simp
                with_reducible rfl
              rotate_left
              · simp only [Act.put, List.setIfInBounds_toArray, List.set_cons_zero, List.set_cons_succ, i64_w, i32_w]
                rfl
              refine take_ (i := 10) (N := some 25) (v := ?_) (a' := ?_) #[true, true, true, true, true, true, true, true, true, true, true, true, true, true, true, false, false, false, false, false] rfl rfl (take_ofW HT_.out HW_.out (by kernel_rfl)) (fun _ _ _ h => h) (Or.inl ⟨by rfl, ?_⟩) hHeld ?_ ?_
              rotate_left
              · rintro w' ⟨s0, s1, s2, s3, s4, s5, s6, s7, s8⟩
                go_simp
                with_reducible rfl
              rotate_left
              · simp only [Act.put, List.setIfInBounds_toArray, List.set_cons_zero, List.set_cons_succ, i64_w, i32_w]
                rfl
              refine take_ (i := 15) (N := some 30) (v := ?_) (a' := ?_) #[true, true, true, true, true, true, true, true, true, true, true, true, true, true, true, true, false, false, false, false] rfl rfl (take_ofW HT_.out HW_.out (by kernel_rfl)) (fun _ _ _ h => h) (Or.inl ⟨by rfl, ?_⟩) hHeld ?_ ?_
              rotate_left
              · rintro w' ⟨s0, s1, s2, s3, s4, s5, s6, s7, s8⟩
                go_simp
                with_reducible rfl
              rotate_left
              · simp only [Act.put, List.setIfInBounds_toArray, List.set_cons_zero, List.set_cons_succ, i64_w, i32_w]
                rfl
              refine pure_ (i := 16) (N := some 31) (v := ?_) (a' := ?_) #[true, true, true, true, true, true, true, true, true, true, true, true, true, true, true, true, true, false, false, false] rfl rfl (any_of HT_.out (by kernel_rfl)) (fun _ _ _ h => h) (Or.inl ⟨by rfl, ?_⟩) ?_ ?_
              rotate_left
              · intro w'
                go_simp
                with_reducible rfl
              rotate_left
              · simp only [Act.put, List.setIfInBounds_toArray, List.set_cons_zero, List.set_cons_succ, i64_w, i32_w]
                rfl
              refine one_ (i := 17) (N := some 32) #[true, true, true, true, true, true, true, true, true, true, true, true, true, true, true, true, true, true, false, false] rfl rfl (one_of HT_.out (by kernel_rfl)) (by decide) (fun K hK => ?_)
              refine value_ (w1 := ?_) (v := ?_) (by rfl) rfl ?_ ?_
              rotate_left 2
              · go_simp
                constructor
                · rfl
                · rfl
              refine hK.out _ _ ⟨(World.cell?_alloc_lt _ _ _ (World.block_lt_of_cell? _ _ (((HB.out.cell (World.block_lt_of_cell? w _ hw225_0)).trans hw225_0)))).trans (((HB.out.cell (World.block_lt_of_cell? w _ hw225_0)).trans hw225_0)), (World.cell?_alloc_lt _ _ _ (World.block_lt_of_cell? _ _ (((HB.out.cell (World.block_lt_of_cell? w _ hw225_1)).trans hw225_1)))).trans (((HB.out.cell (World.block_lt_of_cell? w _ hw225_1)).trans hw225_1)), (World.cell?_alloc_lt _ _ _ (World.block_lt_of_cell? _ _ (((HB.out.cell (World.block_lt_of_cell? w _ hw225_2)).trans hw225_2)))).trans (((HB.out.cell (World.block_lt_of_cell? w _ hw225_2)).trans hw225_2)), (World.cell?_alloc_lt _ _ _ (World.block_lt_of_cell? _ _ (((HB.out.cell (World.block_lt_of_cell? w _ hw226_0)).trans hw226_0)))).trans (((HB.out.cell (World.block_lt_of_cell? w _ hw226_0)).trans hw226_0)), (World.cell?_alloc_lt _ _ _ (World.block_lt_of_cell? _ _ (((HB.out.cell (World.block_lt_of_cell? w _ hw226_1)).trans hw226_1)))).trans (((HB.out.cell (World.block_lt_of_cell? w _ hw226_1)).trans hw226_1)), (World.cell?_alloc_lt _ _ _ (World.block_lt_of_cell? _ _ (((HB.out.cell (World.block_lt_of_cell? w _ hw226_2)).trans hw226_2)))).trans (((HB.out.cell (World.block_lt_of_cell? w _ hw226_2)).trans hw226_2)), (World.cell?_alloc_lt _ _ _ (World.block_lt_of_cell? _ _ (((HB.out.cell (World.block_lt_of_cell? w _ hw227_0)).trans hw227_0)))).trans (((HB.out.cell (World.block_lt_of_cell? w _ hw227_0)).trans hw227_0)), (World.cell?_alloc_lt _ _ _ (World.block_lt_of_cell? _ _ (((HB.out.cell (World.block_lt_of_cell? w _ hw227_1)).trans hw227_1)))).trans (((HB.out.cell (World.block_lt_of_cell? w _ hw227_1)).trans hw227_1)), (World.cell?_alloc_lt _ _ _ (World.block_lt_of_cell? _ _ (((HB.out.cell (World.block_lt_of_cell? w _ hw227_2)).trans hw227_2)))).trans (((HB.out.cell (World.block_lt_of_cell? w _ hw227_2)).trans hw227_2))⟩ (fun hHeld => ?_)
              clear hK K
              refine norm_ (a' := ?_) ?_ ?_
              rotate_left
              · show Act.put _ (some 32) _ = _
                simp only [Act.put, List.setIfInBounds_toArray, List.set_cons_zero, List.set_cons_succ, i64_w, i32_w]
                rfl
              refine one_ (i := 18) (N := some 33) #[true, true, true, true, true, true, true, true, true, true, true, true, true, true, true, true, true, true, true, false] rfl rfl (one_of HT_.out (by kernel_rfl)) (by decide) (fun K hK => ?_)
              refine Kd.R_append_step k37 (w0 := w) w.heap.size (by rfl) (.tmp 15) (.tmp 32) 31 37 (.agg #[(.bool false), (.string ⟨#[]⟩), (.string ⟨#[]⟩)]) 40 rfl Tryd.underlying31 info37 rfl (by decide) (by omega) u3 x3_1 (⟨(rd_T35 l0 x4_1).f0, (rd_T35 l0 x4_1).f1, (rd_T35 l0 x4_1).f2⟩ : S37) [.bool ((rd_T35 l0 x4_1).f0), .string ((rd_T35 l0 x4_1).f1), .string ((rd_T35 l0 x4_1).f2)] (fun _ => True) (fun _ => False) rfl rfl ?aP (fun _ hk => hk.elim) ?aF ?aO ?aB ?aS ?aL ?_
              (case aP => exact k37_mkM _ _ _ (⟨(rd_T35 l0 x4_1).f0, (rd_T35 l0 x4_1).f1, (rd_T35 l0 x4_1).f2⟩ : S37))
              (case aB => exact (by repeat (first | (with_reducible first | exact HB.out | apply below_alloc | apply pw_below_drewN | apply below_drew1) | exact HB.out)))
              (case aF => exact (fun _ _ => trivial))
              (case aO => exact (by (with_reducible repeat (first | apply Kd.R_alloc | apply Kd.R_drewN | apply Kd.R_drew)); exact HO_3.out))
              (case aS => exact (below_size (by repeat (first | (with_reducible first | exact HB.out | apply below_alloc | apply pw_below_drewN | apply below_drew1) | exact HB.out))))
              (case aL => have := LMc5.out; omega)
              intro v229 w7 ho hb hg hat
              rw [← Ny228.out] at ho
              have n0_ := Aside0.mk (hb)
              have n1_ := Aside0.mk (ho)
              clear HB
              clear HO_3
              have HB := n0_
              have HO230 := n1_
              clear n0_ n1_
              clear ho hb hg hat
              refine hK.out _ _ ⟨((HB.out.cell (World.block_lt_of_cell? w _ hw225_0)).trans hw225_0), ((HB.out.cell (World.block_lt_of_cell? w _ hw225_1)).trans hw225_1), ((HB.out.cell (World.block_lt_of_cell? w _ hw225_2)).trans hw225_2), ((HB.out.cell (World.block_lt_of_cell? w _ hw226_0)).trans hw226_0), ((HB.out.cell (World.block_lt_of_cell? w _ hw226_1)).trans hw226_1), ((HB.out.cell (World.block_lt_of_cell? w _ hw226_2)).trans hw226_2), ((HB.out.cell (World.block_lt_of_cell? w _ hw227_0)).trans hw227_0), ((HB.out.cell (World.block_lt_of_cell? w _ hw227_1)).trans hw227_1), ((HB.out.cell (World.block_lt_of_cell? w _ hw227_2)).trans hw227_2)⟩ (fun hHeld => ?_)
              clear hK K
              refine norm_ (a' := ?_) ?_ ?_
              rotate_left
              · show Act.put _ (some 33) _ = _
                simp only [Act.put, List.setIfInBounds_toArray, List.set_cons_zero, List.set_cons_succ, i64_w, i32_w]
                rfl
              refine pure_ (i := 19) (N := some 3) (v := ?_) (a' := ?_) #[true, true, true, true, true, true, true, true, true, true, true, true, true, true, true, true, true, true, true, true] rfl rfl (any_of HT_.out (by kernel_rfl)) (fun _ _ _ h => h) (Or.inl ⟨by rfl, ?_⟩) ?_ ?_
              rotate_left
              · intro w'
                go_simp
                with_reducible rfl
              rotate_left
              · simp only [Act.put, List.setIfInBounds_toArray, List.set_cons_zero, List.set_cons_succ, i64_w, i32_w]
                rfl
              refine done_ (done_of HT_.out (by kernel_rfl)) ?_
              try go_wp2
              go_roundg k1
              case measure => have := HK1.out; omega
              case rel => exact ⟨(y228), (wrap64 (x4_1 + 1)), (by first | rfl | (simp; done) | (simp [*]; done)), H', ⟨by have := HK1.out; omega⟩, ⟨by (with_reducible repeat (first | apply Kd.R_alloc | apply Kd.R_drewN | apply Kd.R_drew)); exact HO230.out⟩, ⟨by repeat (first | (with_reducible first | exact HB.out | apply below_alloc | apply pw_below_drewN | apply below_drew1) | exact HB.out)⟩⟩
            · rw [if_neg c5] at H
              exact absurd H (by simp)
          · rw [if_neg c4] at H
            exact absurd H (by simp)
        · rw [if_neg c3] at H
          have c3b0 : decide (x4_1 < 40) = false := decide_eq_false c3
          clear c3
          obtain rfl := Option.some.inj H
          go_wp2
          go_ret
          exact ⟨_, by first | rfl | (simp [errW_none, errW_some] <;> rfl) | (simp [*, errW_none, errW_some] <;> rfl), by (with_reducible repeat (first | apply Kd.R_alloc | apply Kd.R_drewN | apply Kd.R_drew)); exact HO_3.out, by repeat (first | (with_reducible first | exact HB.out | apply below_alloc | apply pw_below_drewN | apply below_drew1) | exact HB.out)⟩
      · rw [if_neg c2] at H
        have c2b0 : decide (x4_1 < (l0.length : Int)) = false := decide_eq_false c2
        clear c2
        obtain rfl := Option.some.inj H
        go_wp2
        go_ret
        exact ⟨_, by first | rfl | (simp [errW_none, errW_some] <;> rfl) | (simp [*, errW_none, errW_some] <;> rfl), by (with_reducible repeat (first | apply Kd.R_alloc | apply Kd.R_drewN | apply Kd.R_drew)); exact HO_3.out, by repeat (first | (with_reducible first | exact HB.out | apply below_alloc | apply pw_below_drewN | apply below_drew1) | exact HB.out)⟩

end Go.Proofs.YtajndnaeknfogaaDoor.Q
namespace Go.Proofs.YtajndnaeknfogaaDoor.Q
open Go.RowKit Go.Proofs.YtajndnaeknfogaaDoorW.PrintWords Go.Proofs.YtajndnaeknfogaaDoorW.PrintLast Go.Proofs.YtajndnaeknfogaaDoorW.PrintMore
attribute [local go_sem] max2_int min2_int max_two min_two max_three min_three max_four min_four   -- for this text's walks alone
set_option linter.unusedVariables false
set_option linter.unusedSimpArgs false

/-! ### tidewaterref08_SameInts: function 15 -/
def tidewaterref08_SameInts.l0 : Nat → List Int → List Int → Int → Option (Bool)
  | 0, _, _, _ => none
  | k + 1, x0, x1, x5 => if x5 < (x0.length : Int) then (if 0 ≤ x5 then (if x5 < (x1.length : Int) then (if (rd x0 x5) = (rd x1 x5) then (tidewaterref08_SameInts.l0 k x0 x1 (wrap64 (x5 + 1))) else (some false)) else (none)) else (none)) else (some true)
def tidewaterref08_SameInts.f (k : Nat) (l0 : List Int) (l1 : List Int) : Option (Bool) := if (l0.length : Int) = (l1.length : Int) then (tidewaterref08_SameInts.l0 k l0 l1 0) else (some false)
theorem tidewaterref08_SameInts.mono_l : ∀ k, (∀ y0 y1 y2, LeO (tidewaterref08_SameInts.l0 k y0 y1 y2) (tidewaterref08_SameInts.l0 (k + 1) y0 y1 y2))
  | 0 => fun _ _ _ r h => by simp [tidewaterref08_SameInts.l0] at h
  | k + 1 => by
    have ih0 := tidewaterref08_SameInts.mono_l k
    · intro y0 y1 y2
      unfold tidewaterref08_SameInts.l0
      repeat' first
      | (with_reducible exact ih0 _ _ _)
      | (with_reducible exact LeO.refl _)
      | (with_reducible exact LeO.none _)
      | (with_reducible refine LeO.ite ?_ ?_)
      | (with_reducible refine LeO.bind ?_ (fun _ => ?_))
      | exact ih0 _ _ _
      | exact LeO.none _
      | refine LeO.ite ?_ ?_
      | refine LeO.bind ?_ (fun _ => ?_)
theorem tidewaterref08_SameInts.mono : ∀ a0 a1 k, LeO (tidewaterref08_SameInts.f k a0 a1) (tidewaterref08_SameInts.f (k + 1) a0 a1) := by
  intro a0 a1 k
  have ih0 := tidewaterref08_SameInts.mono_l k
  unfold tidewaterref08_SameInts.f
  repeat' first
      | (with_reducible exact ih0 _ _ _)
      | (with_reducible exact LeO.refl _)
      | (with_reducible exact LeO.none _)
      | (with_reducible refine LeO.ite ?_ ?_)
      | (with_reducible refine LeO.bind ?_ (fun _ => ?_))
      | exact ih0 _ _ _
      | exact LeO.none _
      | refine LeO.ite ?_ ?_
      | refine LeO.bind ?_ (fun _ => ?_)
set_option maxHeartbeats 8000000 in
set_option maxRecDepth 100000 in
theorem tidewaterref08_SameInts.calls (k : Nat) (A0 : Option Addr) (c0 : Nat) (l0 : List Int) (A1 : Option Addr) (c1 : Nat) (l1 : List Int) (r : Bool) (w : World) (hr0 : Kd.C (Kd.int .i64) w A0 l0.length l0) (hc0 : l0.length ≤ c0) (hr1 : Kd.C (Kd.int .i64) w A1 l1.length l1) (hc1 : l1.length ≤ c1) (h : tidewaterref08_SameInts.f k l0 l1 = some r) :
    Calls Tryd.prog 15 #[.slice A0 l0.length c0, .slice A1 l1.length c1] w fun e w' => e = .returned (.bool r) ∧ Drawn0 w w' := by
  have HR0 := Aside0.mk hr0
  have HC0 := Aside0.mk hc0
  clear hr0 hc0
  have HR1 := Aside0.mk hr1
  have HC1 := Aside0.mk hc1
  clear hr1 hc1
  have H : (if (l0.length : Int) = (l1.length : Int) then (tidewaterref08_SameInts.l0 k l0 l1 0) else (some false)) = some r := h
  clear h
  by_cases c3 : (l0.length : Int) = (l1.length : Int)
  · rw [if_pos c3] at H
    have c3b0 : ((l0.length : Int) == (l1.length : Int)) = true := beq_iff_eq.mpr c3
    have c3b1 : ((l0.length : Int) != (l1.length : Int)) = false := bne_eq_false_iff_eq.mpr c3
    have c3b2 : (l0.length == l1.length) = true := by first | simpa using c3 | (simp at c3 ⊢; omega)
    clear c3
    have H' := Aside0.mk H
    clear H
    go_enter Tryd.func15, Tryd.ntmps15
    go_wp2
    repeat (go_quiet (fail); try go_wp2)
    go_loopg [5] k (fun kq v5 w' => ∃ (x5_1 : Int), v5 = .int .i64 x5_1 ∧ Aside0 (tidewaterref08_SameInts.l0 kq l0 l1 x5_1 = some r) ∧ Aside0 (kq ≤ k) ∧ Drawn0 w w')
    case atStart => exact ⟨(0), (by first | rfl | (simp; done) | (simp [*]; done)), H', ⟨Nat.le_refl _⟩, by repeat (first | exact Drawn0.refl _ | apply Drawn0.step)⟩
    case round =>
      clear H'
      try clear c1
      try clear p2
      try clear c3
      try clear c3b0
      try clear c3b1
      try clear c3b2
      obtain ⟨x5_1, rfl, HA, HK1, ⟨m1, rfl⟩⟩ := hrel
      cases gk with
      | zero => exact absurd HA.out (by simp [tidewaterref08_SameInts.l0])
      | succ k1 =>
        have H := HA.out
        clear HA
        simp only [tidewaterref08_SameInts.l0] at H
        by_cases c4 : x5_1 < (l0.length : Int)
        · rw [if_pos c4] at H
          have c4b0 : decide (x5_1 < (l0.length : Int)) = true := decide_eq_true c4
          clear c4
          by_cases c5 : 0 ≤ x5_1
          · rw [if_pos c5] at H
            have c5b0 : decide (0 ≤ x5_1) = true := decide_eq_true c5
            clear c5
            by_cases c6 : x5_1 < (l1.length : Int)
            · rw [if_pos c6] at H
              have c6b0 : decide (x5_1 < (l1.length : Int)) = true := decide_eq_true c6
              clear c6
              by_cases c7 : (rd l0 x5_1) = (rd l1 x5_1)
              · rw [if_pos c7] at H
                have c7b0 : ((rd l0 x5_1) == (rd l1 x5_1)) = true := beq_iff_eq.mpr c7
                have c7b1 : ((rd l0 x5_1) != (rd l1 x5_1)) = false := bne_eq_false_iff_eq.mpr c7
                clear c7
                have H' := Aside0.mk H
                clear H
                have p338 : 0 ≤ (x5_1 : Int) := of_decide_eq_true (by first | (with_reducible assumption) | assumption)
                have q338 : x5_1 < (l0.length : Int) := of_decide_eq_true (by first | (with_reducible assumption) | assumption)
                obtain ⟨ad338, e338, hx338_0⟩ := Kd.at_int HR0.out x5_1 p338 q338
                cases e338
                replace p338 := eq_true p338
                replace q338 := eq_true q338
                have p339 : 0 ≤ (x5_1 : Int) := of_decide_eq_true (by first | (with_reducible assumption) | assumption)
                have q339 : x5_1 < (l1.length : Int) := of_decide_eq_true (by first | (with_reducible assumption) | assumption)
                obtain ⟨ad339, e339, hx339_0⟩ := Kd.at_int HR1.out x5_1 p339 q339
                cases e339
                replace p339 := eq_true p339
                replace q339 := eq_true q339
                go_wp2
                repeat (go_quiet (fail); try go_wp2)
                go_roundg k1
                case measure => have := HK1.out; omega
                case rel => exact ⟨(wrap64 (x5_1 + 1)), (by first | rfl | (simp; done) | (simp [*]; done)), H', ⟨by have := HK1.out; omega⟩, by repeat (first | exact Drawn0.refl _ | apply Drawn0.step)⟩
              · rw [if_neg c7] at H
                have c7b0 : ((rd l0 x5_1) == (rd l1 x5_1)) = false := beq_eq_false_iff_ne.mpr c7
                have c7b1 : ((rd l0 x5_1) != (rd l1 x5_1)) = true := bne_iff_ne.mpr c7
                obtain rfl := Option.some.inj H
                have p338 : 0 ≤ (x5_1 : Int) := of_decide_eq_true (by first | (with_reducible assumption) | assumption)
                have q338 : x5_1 < (l0.length : Int) := of_decide_eq_true (by first | (with_reducible assumption) | assumption)
                obtain ⟨ad338, e338, hx338_0⟩ := Kd.at_int HR0.out x5_1 p338 q338
                cases e338
                replace p338 := eq_true p338
                replace q338 := eq_true q338
                have p339 : 0 ≤ (x5_1 : Int) := of_decide_eq_true (by first | (with_reducible assumption) | assumption)
                have q339 : x5_1 < (l1.length : Int) := of_decide_eq_true (by first | (with_reducible assumption) | assumption)
                obtain ⟨ad339, e339, hx339_0⟩ := Kd.at_int HR1.out x5_1 p339 q339
                cases e339
                replace p339 := eq_true p339
                replace q339 := eq_true q339
                go_wp2
                repeat (go_quiet (fail); try go_wp2)
                go_ret
                exact ⟨by first | rfl | (simp; done) | (simp [*]; done), by repeat (first | exact Drawn0.refl _ | apply Drawn0.step)⟩
            · rw [if_neg c6] at H
              exact absurd H (by simp)
          · rw [if_neg c5] at H
            exact absurd H (by simp)
        · rw [if_neg c4] at H
          have c4b0 : decide (x5_1 < (l0.length : Int)) = false := decide_eq_false c4
          clear c4
          obtain rfl := Option.some.inj H
          go_wp2
          repeat (go_quiet (fail); try go_wp2)
          go_ret
          exact ⟨by first | rfl | (simp; done) | (simp [*]; done), by repeat (first | exact Drawn0.refl _ | apply Drawn0.step)⟩
  · rw [if_neg c3] at H
    have c3b0 : ((l0.length : Int) == (l1.length : Int)) = false := beq_eq_false_iff_ne.mpr c3
    have c3b1 : ((l0.length : Int) != (l1.length : Int)) = true := bne_iff_ne.mpr c3
    have c3b2 : (l0.length == l1.length) = false := by first | simpa using c3 | (simp at c3 ⊢; omega)
    obtain rfl := Option.some.inj H
    go_enter Tryd.func15, Tryd.ntmps15
    go_wp2
    repeat (go_quiet (fail); try go_wp2)
    go_ret
    exact ⟨by first | rfl | (simp; done) | (simp [*]; done), by repeat (first | exact Drawn0.refl _ | apply Drawn0.step)⟩

end Go.Proofs.YtajndnaeknfogaaDoor.Q
