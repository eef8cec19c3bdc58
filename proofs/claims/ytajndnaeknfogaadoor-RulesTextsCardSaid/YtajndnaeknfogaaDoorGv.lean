/- The laws' own trial (lives): it says true. -/
import Derived.Test.YtajndnaeknfogaaDoorGrb
import Derived.Test.YtajndnaeknfogaaDoorGu
namespace Go.Proofs.YtajndnaeknfogaaDoor.Q
open Go.RowKit Go.Proofs.YtajndnaeknfogaaDoorW.PrintWords Go.Proofs.YtajndnaeknfogaaDoorW.PrintLast Go.Proofs.YtajndnaeknfogaaDoorW.PrintMore
set_option linter.unusedVariables false
set_option linter.unusedSimpArgs false

def liveL : List S37 := [⟨false, ⟨#[112]⟩, ⟨#[98, 111, 98]⟩⟩, ⟨true, ⟨#[]⟩, ⟨#[42]⟩⟩]
theorem live_read : readP ⟨#[100, 58, 112, 58, 98, 111, 98, 59, 97, 58, 58, 42]⟩ = (liveL, 0) := by kernel_rfl
theorem live_first1 : firstL liveL (kindL 1 []) [98, 111, 98, 47, 112, 97, 100] 0 = 0 := by kernel_rfl
theorem live_first2 : firstL liveL (kindL 1 []) [97, 110, 110] 0 = 1 := by kernel_rfl
theorem live_fine : fineRules liveL = true := by kernel_rfl

def Item12 (W : World) (b : Nat) : Prop := W.cell? ⟨b, 0, none⟩ = some (.int .i64 1) ∧ W.cell? ⟨b, 1, none⟩ = some (.string ⟨#[]⟩) ∧ W.cell? ⟨b, 2, none⟩ = some (.string ⟨#[]⟩) ∧ W.cell? ⟨b, 3, none⟩ = some (.string ⟨#[]⟩) ∧ W.cell? ⟨b, 4, none⟩ = some (.string ⟨#[]⟩) ∧ W.cell? ⟨b, 5, none⟩ = some (.string ⟨#[]⟩) ∧ W.cell? ⟨b, 6, none⟩ = some (.string ⟨#[]⟩) ∧ W.cell? ⟨b, 7, none⟩ = some (.string ⟨#[]⟩) ∧ W.cell? ⟨b, 8, none⟩ = some (.int .u32 0) ∧ W.cell? ⟨b, 9, none⟩ = some (.int .i64 0) ∧ W.cell? ⟨b, 10, none⟩ = some (.bool false) ∧ W.cell? ⟨b, 11, none⟩ = some (.slice none 0 0)
def itemO : Obj := .cells #[.int .i64 1, .string ⟨#[]⟩, .string ⟨#[]⟩, .string ⟨#[]⟩, .string ⟨#[]⟩, .string ⟨#[]⟩, .string ⟨#[]⟩, .string ⟨#[]⟩, .int .u32 0, .int .i64 0, .bool false, .slice none 0 0] 26
theorem Item12.after {W W' : World} {b : Nat} (h : Item12 W b) (hl : b < W.heap.size) (hb : Below W.heap.size W W') : Item12 W' b := by
  obtain ⟨h0, h1, h2, h3, h4, h5, h6, h7, h8, h9, h10, h11⟩ := h
  exact ⟨(hb.cell (p := ⟨b, 0, none⟩) hl).trans h0, (hb.cell (p := ⟨b, 1, none⟩) hl).trans h1, (hb.cell (p := ⟨b, 2, none⟩) hl).trans h2, (hb.cell (p := ⟨b, 3, none⟩) hl).trans h3, (hb.cell (p := ⟨b, 4, none⟩) hl).trans h4, (hb.cell (p := ⟨b, 5, none⟩) hl).trans h5, (hb.cell (p := ⟨b, 6, none⟩) hl).trans h6, (hb.cell (p := ⟨b, 7, none⟩) hl).trans h7, (hb.cell (p := ⟨b, 8, none⟩) hl).trans h8, (hb.cell (p := ⟨b, 9, none⟩) hl).trans h9, (hb.cell (p := ⟨b, 10, none⟩) hl).trans h10, (hb.cell (p := ⟨b, 11, none⟩) hl).trans h11⟩
theorem Item12.new (W : World) : Item12 (W.alloc itemO) W.heap.size := by
  unfold Item12 itemO
  simp [go_sem]
theorem live_facts : ∃ L : List S37, L.length = 2 ∧ rules_Read.f ⟨#[100, 58, 112, 58, 98, 111, 98, 59, 97, 58, 58, 42]⟩ = some (L, 0) ∧ rules_May.f L 1 ⟨#[]⟩ ⟨#[]⟩ ⟨#[]⟩ ⟨#[]⟩ ⟨#[]⟩ ⟨#[]⟩ ⟨#[]⟩ 0 0 false [] ⟨#[98, 111, 98, 47, 112, 97, 100]⟩ 0 = some false ∧ rules_May.f L 1 ⟨#[]⟩ ⟨#[]⟩ ⟨#[]⟩ ⟨#[]⟩ ⟨#[]⟩ ⟨#[]⟩ ⟨#[]⟩ 0 0 false [] ⟨#[97, 110, 110]⟩ 0 = some true ∧ rules_First.f L 1 ⟨#[]⟩ ⟨#[]⟩ ⟨#[]⟩ ⟨#[]⟩ ⟨#[]⟩ ⟨#[]⟩ ⟨#[]⟩ 0 0 false [] ⟨#[97, 110, 110]⟩ 0 = some 1 := by
  refine ⟨liveL, rfl, ?_, ?_, ?_, ?_⟩
  · unfold rules_Read.f
    rw [live_read]
    exact if_pos (by decide)
  · rw [May_f _ _ _ _ _ _ _ _ _ _ _ _ _ _ _ live_fine (by decide)]
    exact congrArg some (by kernel_rfl)
  · rw [May_f _ _ _ _ _ _ _ _ _ _ _ _ _ _ _ live_fine (by decide)]
    exact congrArg some (by kernel_rfl)
  · unfold rules_First.f
    rw [if_pos ⟨live_fine, by decide⟩]
    exact congrArg some live_first2

theorem lives_below {w W1 W3 W4 W5 : World} {o : Obj} (h3 : Below (W1.alloc o).heap.size (W1.alloc o) W3) (h4 : Below W3.heap.size W3 W4) (h5 : Below W4.heap.size W4 W5) (hs : w.heap.size ≤ W1.heap.size) : Below w.heap.size W1 W5 := by
  have a1 : Below w.heap.size W1 (W1.alloc o) := (Below.refl _ W1).alloc hs o
  have s3 := h3.size
  simp only [World.size_alloc] at s3
  have s4 := h4.size
  exact ((a1.trans (h3.mono (by simp; omega))).trans (h4.mono (by omega))).trans (h5.mono (by omega))
def tidewaterlaw24_lives.f : Option Bool := some true
set_option maxHeartbeats 8000000 in
set_option maxRecDepth 100000 in
theorem tidewaterlaw24_lives.calls (r : Bool) (w : World) (h : tidewaterlaw24_lives.f = some r) :
    Calls Tryd.prog 8 #[] w fun e w' => e = .returned (.bool r) ∧ Below w.heap.size w w' := by
  obtain rfl := Option.some.inj h
  clear h
  obtain ⟨L, hlen, hR, hM1, hM2, hF⟩ := live_facts
  have hlen1 : ((L.length : Int) == 2) = true := by rw [hlen]; rfl
  have HR := Aside0.mk hR
  have HM1 := Aside0.mk hM1
  have HM2 := Aside0.mk hM2
  have HF := Aside0.mk hF
  clear hR hM1 hM2 hF hlen
  have hu26 := Tryd.underlying26
  go_enter Tryd.func8, Tryd.ntmps8
  go_wp2_with (first | (go_at_call 17; refine (rules_Read.calls ⟨#[100, 58, 112, 58, 98, 111, 98, 59, 97, 58, 58, 42]⟩ L 0 _ HR.out).mono ?_; rintro e W1 ⟨v, rfl, hk, hb1⟩; obtain ⟨A, c, rfl⟩ := Kd.R_slice hk; have hk2 := (Kd.R_reads' hk); have HK := Aside0.mk hk2; have HB1 := Aside0.mk hb1; clear hk hk2 hb1) | (go_at_call 13; refine (rules_May.calls A c L 1 ⟨#[]⟩ ⟨#[]⟩ ⟨#[]⟩ ⟨#[]⟩ ⟨#[]⟩ ⟨#[]⟩ ⟨#[]⟩ 0 0 false none 0 [] ⟨#[98, 111, 98, 47, 112, 97, 100]⟩ 0 false _ (Kd.C_below HK.out.2.2 ((Below.refl _ W1).alloc (Nat.le_refl _) itemO)) HK.out.2.1 (Kd.C_nil _ _) (Nat.le_refl _) HM1.out).mono ?_; clear HM1; rintro e W3 ⟨rfl, hb3⟩; have HB3 := Aside0.mk hb3; have it3 := (Item12.new W1).after (by simp) hb3; have IT := Aside0.mk it3; obtain ⟨q0, q1, q2, q3, q4, q5, q6, q7, q8, q9, q10, q11⟩ := it3; have CK3 := Aside0.mk (Kd.C_below (Kd.C_below HK.out.2.2 ((Below.refl _ W1).alloc (Nat.le_refl _) itemO)) hb3); have HL3 : Aside0 (W1.heap.size < W3.heap.size) := ⟨by have := hb3.size; simp at this; omega⟩; clear hb3) | (go_at_call 13; refine (rules_May.calls A c L 1 ⟨#[]⟩ ⟨#[]⟩ ⟨#[]⟩ ⟨#[]⟩ ⟨#[]⟩ ⟨#[]⟩ ⟨#[]⟩ 0 0 false none 0 [] ⟨#[97, 110, 110]⟩ 0 true _ CK3.out HK.out.2.1 (Kd.C_nil _ _) (Nat.le_refl _) HM2.out).mono ?_; clear HM2; rintro e W4 ⟨rfl, hb4⟩; have HB4 := Aside0.mk hb4; have CK4 := Aside0.mk (Kd.C_below CK3.out hb4); have it4 := IT.out.after HL3.out hb4; obtain ⟨r0, r1, r2, r3, r4, r5, r6, r7, r8, r9, r10, r11⟩ := it4; clear hb4 q0 q1 q2 q3 q4 q5 q6 q7 q8 q9 q10 q11) | (go_at_call 11; refine (rules_First.calls A c L 1 ⟨#[]⟩ ⟨#[]⟩ ⟨#[]⟩ ⟨#[]⟩ ⟨#[]⟩ ⟨#[]⟩ ⟨#[]⟩ 0 0 false none 0 [] ⟨#[97, 110, 110]⟩ 0 1 _ CK4.out HK.out.2.1 (Kd.C_nil _ _) (Nat.le_refl _) HF.out).mono ?_; clear HF; rintro e W5 ⟨rfl, hb5⟩; have HB5 := Aside0.mk hb5; clear hb5))
  go_ret
  refine ⟨rfl, ?_⟩
  exact HB1.out.trans (lives_below HB3.out HB4.out HB5.out HB1.out.size)
end Go.Proofs.YtajndnaeknfogaaDoor.Q
