/- The contract of slices.IndexFunc and slices.ContainsFunc at rules: at a function value that answers each of the rules, the first for which it says yes. -/
import Derived.Test.YtajndnaeknfogaaDoorGa
import Derived.Test.YtajndnaeknfogaaDoorGp
namespace Go.Proofs.YtajndnaeknfogaaDoor.Q
open Go.RowKit Go.Proofs.YtajndnaeknfogaaDoorW.PrintWords Go.Proofs.YtajndnaeknfogaaDoorW.PrintLast Go.Proofs.YtajndnaeknfogaaDoorW.PrintMore
set_option linter.unusedVariables false
set_option linter.unusedSimpArgs false

def AnswersRules (g : Nat) (lb : Array Value) (p : S37 → Bool) (l : List S37) (w : World) : Prop :=
  ∀ (W : World) (x : S37), x ∈ l → Below w.heap.size w W → Calls Tryd.prog g (#[.agg #[.bool x.f0, .string x.f1, .string x.f2]] ++ lb) W fun e w' => e = .returned (.bool (p x)) ∧ Below W.heap.size W w'

theorem rd_T37_at {l : List S37} {k : Nat} (h : k < l.length) : rd_T37 l (k : Int) = l[k] := by
  unfold rd_T37; rw [List.getD_eq_getElem?_getD, List.getElem?_eq_getElem (by simpa using h)]; rfl

set_option maxHeartbeats 2000000 in
set_option maxRecDepth 100000 in
theorem indexRules (g : Nat) (lb : Array Value) (eg : ∀ args w, (callFunc g args).run Tryd.prog w = .ok (.enter g args) w) (p : S37 → Bool) (A0 : Option Addr) (c0 : Nat) (l0 : List S37) (w : World)
    (hr0 : Kd.C k37 w A0 l0.length l0) (hc0 : l0.length ≤ c0) (hp : AnswersRules g lb p l0 w) :
    Calls Tryd.prog 27 #[.slice A0 l0.length c0, .func (.func g) #[] lb] w fun e w' => e = .returned (.int .i64 (idxFrom p l0 0)) ∧ Below w.heap.size w w' := by
  have hmax := Kd.C_max hr0
  have HR0 := Aside0.mk hr0
  have HC0 := Aside0.mk hc0
  have HP := Aside0.mk hp
  have hu37 := Tryd.underlying37
  clear hr0 hc0 hp
  generalize hF : idxFrom p l0 0 = F
  have hF' := Aside0.mk hF
  clear hF
  go_enter Tryd.func27, Tryd.ntmps27
  go_wp2
  go_loopw [8] (fun v8 wr => ∃ k : Nat, v8 = .int .i64 k ∧ k ≤ l0.length ∧ Aside0 (idxFrom p (l0.drop k) k = F) ∧ Aside0 (Below w.heap.size w wr)) (fun v8 _ => l0.length - (intOf v8).toNat)
  case atStart => exact ⟨0, rfl, by omega, hF', ⟨Below.refl _ _⟩⟩
  case round =>
    obtain ⟨k, rfl, hk, hrel, HB⟩ := hrel
    clear hF'
    by_cases hlt : k < l0.length
    · have hd := idxFrom_drop (p := p) hlt (k : Int)
      rw [hrel.out] at hd
      have hat := at_T37 (Kd.C_below HR0.out HB.out) (k : Int) (by omega) (by omega)
      rw [rd_T37_at hlt] at hat
      have cS := HP.out wr l0[k] (List.getElem_mem _) HB.out
      generalize l0[k] = x at *
      obtain ⟨ad, e0, h0, h1, h2⟩ := hat
      cases e0
      simp only [Int.toNat_natCast] at h0 h1 h2
      have HS := Aside0.mk cS
      clear cS hrel
      have hz : (0 : Int) ≤ (k : Int) := by omega
      have hz2 : (k : Int) < (l0.length : Int) := by omega
      cases hpx : p x
      · have HD : Aside0 (idxFrom p (l0.drop (k + 1)) ((k + 1 : Nat) : Int) = F) := ⟨by rw [hd, hpx]; simp⟩
        have HX := Aside0.mk hpx
        clear hd hpx
        go_wp2_with (go_at_fn g; refine HS.out.mono ?_; rintro e w' ⟨rfl, hb⟩)
        · exact absurd (‹p x = true›.symm.trans HX.out) (by simp)
        · go_roundw
          case rel => exact ⟨k + 1, by go_num, by omega, HD, ⟨HB.out.trans (hb.mono HB.out.size)⟩⟩
          case measure => simp [intOf]; omega
      · have HD : Aside0 ((k : Int) = F) := ⟨by rw [hd, hpx]; simp⟩
        have HX := Aside0.mk hpx
        clear hd hpx
        go_wp2_with (go_at_fn g; refine HS.out.mono ?_; rintro e w' ⟨rfl, hb⟩)
        · go_ret
          exact ⟨by rw [← HD.out]; rfl, HB.out.trans (hb.mono HB.out.size)⟩
        · exact absurd (‹p x = false›.symm.trans HX.out) (by simp)
    · have hn : idxFrom p (l0.drop k) k = -1 := by rw [List.drop_of_length_le (by omega)]; rfl
      rw [hrel.out] at hn
      have HD := Aside0.mk hn
      clear hn hrel
      go_wp2
      go_ret
      exact ⟨by rw [HD.out]; rfl, HB.out⟩
end Go.Proofs.YtajndnaeknfogaaDoor.Q
