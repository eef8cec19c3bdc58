/- The contract of strings.SplitN at a separator of one byte and three parts; condition: a text shorter than 4294967281 bytes. -/
import Derived.Test.YtajndnaeknfogaaDoorGa
namespace Go.Proofs.YtajndnaeknfogaaDoor.Q
open Go.RowKit Go.Proofs.YtajndnaeknfogaaDoorW.PrintWords Go.Proofs.YtajndnaeknfogaaDoorW.PrintLast Go.Proofs.YtajndnaeknfogaaDoorW.PrintMore
set_option linter.unusedVariables false
set_option linter.unusedSimpArgs false

def strings_SplitN.f (a0 a1 : ByteArray) (a2 : Int) : Option (List ByteArray) :=
  if a0.size < 4294967281 ∧ a1.size = 1 ∧ a2 = 3 then some (Lib.splitB ⟨#[a1.data[0]!]⟩ 0 (min 3 (a0.size + 1) - 1) a0) else none

theorem splitB_len (c : UInt8) (k : Nat) (s : ByteArray) : (Lib.splitB ⟨#[c]⟩ 0 k s).length ≤ k + 1 := by
  induction k generalizing s with
  | zero => simp [Lib.splitB]
  | succ k ih =>
    unfold Lib.splitB
    split
    · simp
    · simp only [List.length_cons]; have := ih (s.extract ((Lib.indexB s ⟨#[c]⟩).toNat + (⟨#[c]⟩ : ByteArray).size) s.size); omega

theorem R_cellsOf (w : World) (xs : List ByteArray) (N : Nat) (h : xs.length ≤ N) (hN : N ≤ 9223372036854775807) :
    Kd.R Kd.string 9 (w.alloc (.cells (Lib.cellsOf xs N) 9)) w.heap.size (fun _ => True) (.slice (some ⟨w.heap.size, 0, none⟩) xs.length N) xs := by
  refine Kd.R_of_own (h1 := fun _ => rfl) ?_ (fun _ _ => trivial)
  refine ⟨by simp [encs], .inr ⟨w.heap.size, N, Lib.cellsOf xs N, rfl, Nat.le_refl _, by simp [World.alloc, -World.alloc_eq], h, by simpa [maxLen] using hN, ?_, ?_⟩⟩
  · simp [Lib.cellsOf]; omega
  · simp [Lib.cellsOf, encs]

set_option maxHeartbeats 1000000 in
theorem strings_SplitN.calls (a0 a1 : ByteArray) (a2 : Int) (r : List ByteArray) (w : World) (h : strings_SplitN.f a0 a1 a2 = some r) :
    Calls Tryd.prog 52 #[.string a0, .string a1, .int .i64 a2] w fun e w' => ∃ v0_ : Value, e = .returned (v0_) ∧ Kd.R Kd.string 9 w' w.heap.size (fun _ => True) v0_ r ∧ Below w.heap.size w w' := by
  unfold strings_SplitN.f at h
  by_cases hs : a0.size < 4294967281 ∧ a1.size = 1 ∧ a2 = 3
  · rw [if_pos hs] at h
    obtain ⟨h1, h2, rfl⟩ := hs
    have ha1 := one_byte h2
    generalize a1.data[0]! = c at *
    subst ha1
    have HR := Aside0.mk (Option.some.inj h)
    have cG := Tryd.strings_genSplit_one a0 c 3 (min 3 (a0.size + 1)) w h1 (by omega) (by omega) rfl
    have hlen := splitB_len c (min 3 (a0.size + 1) - 1) a0
    rw [HR.out] at cG hlen
    have hR := R_cellsOf w r (min 3 (a0.size + 1)) (by omega) (by omega)
    generalize min 3 (a0.size + 1) = N at *
    have HG := Aside0.mk cG
    have HRR := Aside0.mk hR
    clear cG hR h hlen h1 h2 HR
    go_enter Tryd.func52, Tryd.ntmps52
    go_wp2_with (go_at_call 68; refine HG.out.mono ?_; rintro e w' ⟨rfl, rfl⟩)
    go_ret
    exact ⟨_, rfl, HRR.out, (Below.refl _ _).alloc (Nat.le_refl _) _⟩
  · rw [if_neg hs] at h; cases h
end Go.Proofs.YtajndnaeknfogaaDoor.Q
