/- The contracts of rules.hasRune, of (rules.Rule).about's inner function and of (rules.Rule).about, at ASCII texts ('none' of the '.f' where a text is not). -/
import Derived.Test.YtajndnaeknfogaaDoorGa
import Derived.Test.YtajndnaeknfogaaDoorGp
namespace Go.Proofs.YtajndnaeknfogaaDoor.Q
open Go.RowKit Go.Proofs.YtajndnaeknfogaaDoorW.PrintWords Go.Proofs.YtajndnaeknfogaaDoorW.PrintLast Go.Proofs.YtajndnaeknfogaaDoorW.PrintMore
set_option linter.unusedVariables false
set_option linter.unusedSimpArgs false

def ascB (s : ByteArray) : Bool := ascL s.data.toList
theorem ascB_at {s : ByteArray} (h : ascB s = true) : ∀ k (h : k < s.size), (s[k]'h).toNat < 128 := fun k hk =>
  of_decide_eq_true (List.all_eq_true.mp h _ (Array.mem_toList_iff.mpr (Array.getElem_mem (xs := s.data) hk)))

set_option maxHeartbeats 2000000 in
set_option maxRecDepth 100000 in
theorem hasRune_asc (s : ByteArray) (x : Nat) (w : World) (hs : ∀ k (h : k < s.size), (s[k]'h).toNat < 128) (hx : x < 128) :
    Calls Tryd.prog 45 #[.string s, .int .i32 x] w fun e w' => e = .returned (.bool (s.data.toList.any (fun b => decide (b.toNat = x)))) ∧ Below w.heap.size w w' := by
  go_enter Tryd.func45, Tryd.ntmps45
  go_wp2
  go_loopg [] s.size (fun gf wx => ∃ pos : Nat, wx.heap[w.heap.size]? = some (.stringIter s pos) ∧ Below w.heap.size w wx ∧ Aside0 ((s.data.toList.take pos).any (fun b => decide (b.toNat = x)) = false) ∧ s.size ≤ pos + gf)
  case atStart => exact ⟨0, World.iter_heap w s 0, (Below.refl _ w).alloc (Nat.le_refl _) _, ⟨rfl⟩, by omega⟩
  case round =>
    obtain ⟨pos, hit, hbw, hleft, hfu⟩ := hrel
    by_cases hps : pos < s.size
    · obtain ⟨g', rfl⟩ : ∃ g', gk = g' + 1 := ⟨gk - 1, by omega⟩
      have hnx : ∀ ty, (Instr.next (.pointer (some ⟨w.heap.size, 0, none⟩)) true ty).run Tryd.prog wr = _ := fun ty => Lib.run_next_any_at wr w.heap.size s pos ty hit hps
      have hx2 := hs pos hps
      rw [decode_ascii s pos hps hx2] at hnx
      simp only at hnx
      have hX : s.data.toList[pos]'(by simpa using hps) = s[pos] := by simp; rfl
      have hany : s[pos].toNat = x → s.data.toList.any (fun b => decide (b.toNat = x)) = true := fun h => any_at (p := fun b => decide (b.toNat = x)) (k := pos) (by simpa using hps) (by rw [hX]; exact decide_eq_true h)
      have hnxt : ¬ s[pos].toNat = x → (s.data.toList.take (pos + 1)).any (fun b => decide (b.toNat = x)) = false := fun h => take_next (p := fun b => decide (b.toNat = x)) (by simpa using hps) hleft.out (by rw [hX]; exact decide_eq_false h)
      obtain ⟨R, hR⟩ : ∃ R, s[pos].toNat = R := ⟨_, rfl⟩
      rw [hR] at hnx hx2 hany hnxt
      have hit2 := Lib.iterAt_heap wr w.heap.size s pos (pos + 1) hit
      have hbw2 := Lib.below_iterAt hbw (k := w.heap.size) (Nat.le_refl _) s (pos + 1)
      obtain ⟨W, hWd⟩ : ∃ W, wr.iterAt w.heap.size s (pos + 1) = W := ⟨_, rfl⟩
      rw [hWd] at hnx hit2 hbw2
      clear hR hX hleft hs
      have HA := Aside0.mk hany
      have HN := Aside0.mk hnxt
      clear hany hnxt
      by_cases hsp : R = x
      · have HA' := Aside0.mk (HA.out hsp)
        have hb : ((R : Int) == (x : Int)) = true := by rw [hsp]; simp
        clear HA HN hsp
        go_wp2
        go_ret
        exact ⟨by rw [HA'.out]; rfl, hbw2⟩
      · have HN' := Aside0.mk (HN.out hsp)
        have hb : ((R : Int) == (x : Int)) = false := by simp; omega
        clear HA HN hsp
        go_wp2
        go_roundg g'
        case measure => omega
        case rel => exact ⟨pos + 1, hit2, hbw2, HN', by omega⟩
    · have hnx : ∀ ty, (Instr.next (.pointer (some ⟨w.heap.size, 0, none⟩)) true ty).run Tryd.prog wr = _ := fun ty => Lib.run_next_end_at wr w.heap.size s pos ty hit hps
      have hall : s.data.toList.any (fun b => decide (b.toNat = x)) = false := by
        have := hleft.out
        rwa [List.take_of_length_le (by simp; omega)] at this
      have HA := Aside0.mk hall
      clear hall hleft hs
      go_wp2
      go_ret
      exact ⟨by rw [HA.out]; rfl, hbw⟩

set_option maxHeartbeats 400000 in
theorem about1_calls (s : ByteArray) (x : Nat) (b : Nat) (w : World) (hs : ∀ k (h : k < s.size), (s[k]'h).toNat < 128) (hx : x < 128)
    (hc : w.cell? ⟨b, 1, none⟩ = some (.string s)) :
    Calls Tryd.prog 44 #[.int .i32 x, .pointer (some ⟨b, 0, none⟩)] w fun e w' => e = .returned (.bool (!(s.data.toList.any (fun b => decide (b.toNat = x))))) ∧ Below w.heap.size w w' := by
  have c := fun W => hasRune_asc s x W hs hx
  generalize s.data.toList.any (fun b => decide (b.toNat = x)) = B at *
  have H := Aside0.mk c
  have hu37 := Tryd.underlying37
  clear c hs
  go_enter Tryd.func44, Tryd.ntmps44
  go_wp2_with (go_at_call 45; refine (H.out _).mono ?_; rintro e w' ⟨rfl, hb⟩)
  go_ret
  exact ⟨rfl, hb⟩

def rules_Rule_about.f (_ : Bool) (a0_1 _ a1 : ByteArray) : Option Bool :=
  if a0_1.toList = [] then some true else if ascB a0_1 = true ∧ ascB a1 = true then some (a1.data.toList.all (fun c => a0_1.data.toList.any (fun b => decide (b.toNat = c.toNat)))) else none

set_option maxHeartbeats 1000000 in
set_option maxRecDepth 100000 in
theorem rules_Rule_about.calls (a0_0 : Bool) (a0_1 a0_2 a1 : ByteArray) (r : Bool) (w : World) (h : rules_Rule_about.f a0_0 a0_1 a0_2 a1 = some r) :
    Calls Tryd.prog 29 #[.agg #[.bool a0_0, .string a0_1, .string a0_2], .string a1] w fun e w' => e = .returned (.bool r) ∧ Below w.heap.size w w' := by
  unfold rules_Rule_about.f at h
  have hu37 := Tryd.underlying37
  by_cases h1 : a0_1.toList = []
  · rw [if_pos h1] at h
    obtain rfl := Option.some.inj h
    go_enter Tryd.func29, Tryd.ntmps29
    go_wp2
    go_ret
    exact ⟨rfl, (Below.refl _ _).alloc (Nat.le_refl _) _⟩
  · rw [if_neg h1] at h
    by_cases h2 : ascB a0_1 = true ∧ ascB a1 = true
    · rw [if_pos h2] at h
      obtain rfl := Option.some.inj h
      have c2 := fun (W : World) (hc : W.cell? ⟨w.heap.size, 1, none⟩ = some (.string a0_1)) (hlt : w.heap.size < W.heap.size) => ContainsFunc_asc 44 #[.pointer (some ⟨w.heap.size, 0, none⟩)] (enters_of Tryd.func44 (by kernel_rfl) rfl)
        (fun x => !(a0_1.data.toList.any (fun b => decide (b.toNat = x)))) a1 W (ascB_at h2.2) (fun W' x hx hb => about1_calls a0_1 x w.heap.size W' (ascB_at h2.1) hx ((hb.cell (p := ⟨w.heap.size, 1, none⟩) hlt).trans hc))
      have e1 : (!(a1.data.toList.any (fun c => !(a0_1.data.toList.any (fun b => decide (b.toNat = c.toNat)))))) = a1.data.toList.all (fun c => a0_1.data.toList.any (fun b => decide (b.toNat = c.toNat))) := by
        rw [List.all_eq_not_any_not]
      rw [← e1]
      generalize a1.data.toList.any (fun c => !(a0_1.data.toList.any (fun b => decide (b.toNat = c.toNat)))) = B at *
      have H := Aside0.mk c2
      have hie : a0_1.toList.isEmpty = false := by cases hl : a0_1.toList with
        | nil => exact absurd hl h1
        | cons => rfl
      clear c2 h2 e1 h
      go_enter Tryd.func29, Tryd.ntmps29
      go_wp2_with (go_at_call 43; refine (H.out _ (by simp [go_sem]) (by simp)).mono ?_; rintro e w' ⟨rfl, hb⟩)
      go_ret
      exact ⟨rfl, ((Below.refl _ _).alloc (Nat.le_refl _) _).trans (hb.mono (by simp))⟩
    · rw [if_neg h2] at h; cases h
end Go.Proofs.YtajndnaeknfogaaDoor.Q
