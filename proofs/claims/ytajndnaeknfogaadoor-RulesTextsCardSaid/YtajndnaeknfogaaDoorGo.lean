/- The contract of rules.one: the rule of a text, and whether it may be; condition: a text shorter than 4294967281 bytes. -/
import Derived.Test.YtajndnaeknfogaaDoorGs
import Derived.Test.YtajndnaeknfogaaDoorGq
import Derived.Test.YtajndnaeknfogaaDoorGg
import Derived.Test.YtajndnaeknfogaaDoorGw
import Derived.Test.YtajndnaeknfogaaDoorQf34
import Derived.RegionTactic
import Derived.ChangeAlike
namespace Go.Proofs.YtajndnaeknfogaaDoor.Q
open Go.RowKit Go.Proofs.YtajndnaeknfogaaDoorW.PrintWords Go.Proofs.YtajndnaeknfogaaDoorW.PrintLast Go.Proofs.YtajndnaeknfogaaDoorW.PrintMore
set_option linter.unusedVariables false
set_option linter.unusedSimpArgs false

theorem whoP_ev (s : ByteArray) (hs : s.size ≤ 9223372036854775807) : Ev (fun k => rules_who.f k s) (whoL s.data.toList) := by
  unfold rules_who.f
  rw [CutSuffix_star s hs]
  simp only [Option.bind_some]
  unfold whoL
  cases hst : starL s.data.toList
  · simp only [Bool.false_eq_true, if_false, Address_eq s hs, Option.bind_some]
    cases okL s.data.toList
    · simp only [Bool.false_eq_true, if_false, Bool.false_or]
      unfold rules_states.f slices_Contains_string_string.f
      simp only [Option.bind_some]
      exact Ev.bind (Ev.bind (Index_states s) (Ev.now _)) (Ev.now _)
    · simp only [if_true, Bool.true_or]; exact Ev.now _
  · simp only [if_true, ofL_list]
    by_cases h : s.data.toList.dropLast = []
    · simp only [h, if_true, decide_true, Bool.true_or]; exact Ev.now _
    · simp only [h, if_false, decide_false, Bool.false_or, stanza_User.f, userB, ofL_data, Option.bind_some]; exact Ev.now _

theorem right_ev (b : Bool) (kinds who : ByteArray) (hs : who.size ≤ 9223372036854775807) : Ev (fun k => rules_right.f k b kinds who) (kFrom kinds.data.toList (-1) && whoL who.data.toList) := by
  unfold rules_right.f rules_kinds.f
  simp only [Option.bind_some]
  cases kFrom kinds.data.toList (-1)
  · simp only [Bool.false_eq_true, if_false, Bool.false_and]; exact Ev.now _
  · simp only [if_true, Bool.true_and]; exact Ev.bind (whoP_ev who hs) (Ev.now _)

/-- The three parts of a rule's text. -/
def parts3 (s : ByteArray) : List ByteArray := Lib.splitB ⟨#[58]⟩ 0 (min 3 (s.size + 1) - 1) s
def oneP (s : ByteArray) : Bool × ByteArray × ByteArray × Bool :=
  match parts3 s with
  | [a, b, c] => if a.data.toList = [97] ∨ a.data.toList = [100] then (decide (a.data.toList = [97]), b, c, kFrom b.data.toList (-1) && whoL c.data.toList) else (false, ⟨#[]⟩, ⟨#[]⟩, false)
  | _ => (false, ⟨#[]⟩, ⟨#[]⟩, false)
def rules_one.f (a0 : ByteArray) : Option (Bool × ByteArray × ByteArray × Bool) := if a0.size < 4294967281 then some (oneP a0) else none

theorem splitB_sizes (c : UInt8) (k : Nat) (s : ByteArray) : ∀ x ∈ Lib.splitB ⟨#[c]⟩ 0 k s, x.size ≤ s.size := by
  induction k generalizing s with
  | zero => intro x hx; simp [Lib.splitB] at hx; subst hx; exact Nat.le_refl _
  | succ k ih =>
    intro x hx
    unfold Lib.splitB at hx
    split at hx
    · simp at hx; subst hx; exact Nat.le_refl _
    · rcases List.mem_cons.mp hx with rfl | hx
      · rw [← size_list, Lib.extract_data, List.length_take, List.length_drop, size_list]; omega
      · have := ih _ x hx
        have h2 : (s.extract ((Lib.indexB s ⟨#[c]⟩).toNat + (⟨#[c]⟩ : ByteArray).size) s.size).size ≤ s.size := by
          rw [← size_list, Lib.extract_data, List.length_take, List.length_drop, size_list]; omega
        omega

theorem SplitN3 (s : ByteArray) (w : World) (hs : s.size < 4294967281) :
    Calls Tryd.prog 52 #[.string s, .string ⟨#[58]⟩, .int .i64 3] w fun e w' => e = .returned (.slice (some ⟨w.heap.size, 0, none⟩) (parts3 s).length (min 3 (s.size + 1))) ∧ w' = w.alloc (.cells (Lib.cellsOf (parts3 s) (min 3 (s.size + 1))) 9) := by
  have cG := Tryd.strings_genSplit_one s 58 3 (min 3 (s.size + 1)) w hs (by omega) (by omega) rfl
  change Calls Tryd.prog 68 _ w (fun e w' => e = .returned (.slice (some ⟨w.heap.size, 0, none⟩) (parts3 s).length (min 3 (s.size + 1))) ∧ w' = w.alloc (.cells (Lib.cellsOf (parts3 s) (min 3 (s.size + 1))) 9)) at cG
  generalize parts3 s = ps at *
  generalize min 3 (s.size + 1) = N at *
  have HG := Aside0.mk cG
  clear cG hs
  go_enter Tryd.func52, Tryd.ntmps52
  go_wp2_with (go_at_call 68; refine HG.out.mono ?_; rintro e w' ⟨rfl, rfl⟩)
  go_ret
  exact ⟨rfl, rfl⟩

theorem set_below {w W : World} {o : Nat} {v : Value} (h : Below w.heap.size w W) : Below w.heap.size w (W.setCell ⟨w.heap.size, o, none⟩ v) := h.setCell (p := ⟨w.heap.size, o, none⟩) (Nat.le_refl _) v
theorem one_below {w w3 : World} {A B C : Obj}
    (hb : Below ((((w.alloc A).alloc B).alloc C).drew.drew).heap.size ((((w.alloc A).alloc B).alloc C).drew.drew) w3) : Below w.heap.size w w3 :=
  (((((Below.refl _ w).alloc (Nat.le_refl _) _).alloc (by simp) _).alloc (by simp; omega) _).drew.drew).trans (hb.mono (by simp; omega))
theorem one_after {w w3 : World} {B : Array Value} {v0 v1 v2 u0 u1 u2 : Value}
    (hb : Below ((((w.alloc (.cells #[u0, u1, u2] 37)).alloc (.cells B 9)).alloc (.cells #[v0, v1, v2] 37)).drew.drew).heap.size ((((w.alloc (.cells #[u0, u1, u2] 37)).alloc (.cells B 9)).alloc (.cells #[v0, v1, v2] 37)).drew.drew) w3) :
    w3.cell? ⟨w.heap.size + 1 + 1, 0, none⟩ = some v0 ∧ w3.cell? ⟨w.heap.size + 1 + 1, 1, none⟩ = some v1 ∧ w3.cell? ⟨w.heap.size + 1 + 1, 2, none⟩ = some v2 ∧
      w3.cell? ⟨w.heap.size, 0, none⟩ = some u0 ∧ w3.cell? ⟨w.heap.size, 1, none⟩ = some u1 ∧ w3.cell? ⟨w.heap.size, 2, none⟩ = some u2 ∧
      w3.frozen? ⟨w.heap.size, 0, none⟩ = false ∧ w3.frozen? ⟨w.heap.size, 1, none⟩ = false ∧ w3.frozen? ⟨w.heap.size, 2, none⟩ = false := by
  have h1 : w.heap.size + 1 + 1 < ((((w.alloc (.cells #[u0, u1, u2] 37)).alloc (.cells B 9)).alloc (.cells #[v0, v1, v2] 37)).drew.drew).heap.size := by simp
  have h2 : w.heap.size < ((((w.alloc (.cells #[u0, u1, u2] 37)).alloc (.cells B 9)).alloc (.cells #[v0, v1, v2] 37)).drew.drew).heap.size := by simp; omega
  exact ⟨(hb.cell (p := ⟨w.heap.size + 1 + 1, 0, none⟩) h1).trans (by simp [go_sem]), (hb.cell (p := ⟨w.heap.size + 1 + 1, 1, none⟩) h1).trans (by simp [go_sem]), (hb.cell (p := ⟨w.heap.size + 1 + 1, 2, none⟩) h1).trans (by simp [go_sem]),
    (hb.cell (p := ⟨w.heap.size, 0, none⟩) h2).trans (by simp [go_sem]), (hb.cell (p := ⟨w.heap.size, 1, none⟩) h2).trans (by simp [go_sem]), (hb.cell (p := ⟨w.heap.size, 2, none⟩) h2).trans (by simp [go_sem]),
    (hb.frozen (p := ⟨w.heap.size, 0, none⟩) h2).trans (by simp [go_sem]), (hb.frozen (p := ⟨w.heap.size, 1, none⟩) h2).trans (by simp [go_sem]), (hb.frozen (p := ⟨w.heap.size, 2, none⟩) h2).trans (by simp [go_sem])⟩

set_option maxHeartbeats 4000000 in
set_option maxRecDepth 100000 in
theorem rules_one.calls (a0 : ByteArray) (r1 : Bool) (r2 r3 : ByteArray) (r4 : Bool) (w : World) (h : rules_one.f a0 = some (r1, r2, r3, r4)) :
    Calls Tryd.prog 32 #[.string a0] w fun e w' => e = .returned (.tuple #[.agg #[.bool r1, .string r2, .string r3], .bool r4]) ∧ Below w.heap.size w w' := by
  unfold rules_one.f at h
  by_cases hs : a0.size < 4294967281
  · rw [if_pos hs] at h
    have hres := Option.some.inj h
    clear h
    have hu37 := Tryd.underlying37
    have hlen := splitB_len 58 (min 3 (a0.size + 1) - 1) a0
    change (parts3 a0).length ≤ _ at hlen
    have hmem := splitB_sizes 58 (min 3 (a0.size + 1) - 1) a0
    change ∀ x ∈ parts3 a0, x.size ≤ a0.size at hmem
    have cS := fun W => SplitN3 a0 W hs
    by_cases h3 : (parts3 a0).length < 3
    · have hr : oneP a0 = (false, ⟨#[]⟩, ⟨#[]⟩, false) := by
        unfold oneP
        generalize parts3 a0 = ps at h3
        match ps, h3 with
        | [], _ => rfl
        | [_], _ => rfl
        | [_, _], _ => rfl
      rw [hr] at hres
      injection hres with e1 hres; injection hres with e2 hres; injection hres with e3 e4
      subst e1; subst e2; subst e3; subst e4
      have HS := Aside0.mk cS
      have b3 : ((parts3 a0).length : Int) < 3 := by omega
      generalize parts3 a0 = ps at *
      generalize min 3 (a0.size + 1) = N at *
      clear hr hlen hmem cS h3
      go_enter Tryd.func32, Tryd.ntmps32
      go_wp2_with (go_at_call 52; refine (HS.out _).mono ?_; rintro e w' ⟨rfl, rfl⟩)
      exact bodyPost_ret (v := .tuple #[.agg #[.bool false, .string ⟨#[]⟩, .string ⟨#[]⟩], .bool false]) (by simp [results, Tryd.results32, go_sem]) rfl ⟨rfl, ((Below.refl _ _).alloc (Nat.le_refl _) _).alloc (by simp) _⟩
    · have hN : min 3 (a0.size + 1) = 3 := by omega
      rw [hN] at cS hlen
      obtain ⟨p0, p1, p2, hps⟩ : ∃ p0 p1 p2, parts3 a0 = [p0, p1, p2] := by
        generalize parts3 a0 = ps at h3 hlen
        match ps, h3, hlen with
        | [a, b, c], _, _ => exact ⟨a, b, c, rfl⟩
        | [], h3, _ => exact absurd (by simp) h3
        | [_], h3, _ => exact absurd (by simp) h3
        | [_, _], h3, _ => exact absurd (by simp) h3
        | _ :: _ :: _ :: _ :: _, _, hl => simp at hl
      unfold oneP at hres
      rw [hps] at hres hmem cS
      simp only at hres
      have hz2 : p2.size ≤ 9223372036854775807 := by have := hmem p2 (by simp); omega
      change ∀ W : World, Calls Tryd.prog 52 _ W (fun e w' => e = .returned (.slice (some ⟨W.heap.size, 0, none⟩) 3 3) ∧ w' = W.alloc (.cells #[.string p0, .string p1, .string p2] 9)) at cS
      have HS := Aside0.mk cS
      clear hmem cS h3 hlen hN hps
      by_cases hok : p0.data.toList = [97] ∨ p0.data.toList = [100]
      · rw [if_pos hok] at hres
        injection hres with e1 hres; injection hres with e2 hres; injection hres with e3 e4
        subst e2; subst e3
        obtain ⟨k, hk⟩ := (right_ev r1 p1 p2 hz2).rounds
        rw [e4] at hk
        have cR := fun W => rules_right.calls k r1 p1 p2 r4 W hk
        have HR := Aside0.mk cR
        clear hk cR e4
        by_cases ha : p0.data.toList = [97]
        · have ha' : p0.toList = [97] := by rw [Lib.toList_data]; exact ha
          rw [decide_eq_true ha] at e1
          subst e1
          clear hok ha hs hz2
          go_enter Tryd.func32, Tryd.ntmps32
          go_wp2_with (go_at_call 52; refine (HS.out _).mono ?_; rintro e w' ⟨rfl, rfl⟩)
          go_region
          all_goals go_wp2_with fail
          all_goals (go_region_with (go_at_call 34; refine (HR.out _).mono ?_; rintro e w3 ⟨rfl, hb⟩; obtain ⟨c0, c1, c2, d0, d1, d2, z0, z1, z2⟩ := one_after hb))
          all_goals go_wp2
          all_goals (have hbw := one_below hb)
          all_goals (exact bodyPost_ret (v := .tuple #[.agg #[.bool true, .string p1, .string p2], .bool r4]) (by simp [results, Tryd.results32, go_sem, d0, d1, d2]) rfl ⟨rfl, by repeat (first | exact hbw | apply set_below | apply Below.drew)⟩)
        · have hd : p0.data.toList = [100] := hok.resolve_left ha
          have ha' : ¬ p0.toList = [97] := by rw [Lib.toList_data]; exact ha
          have ha2 : (p0.toList == [97]) = false := beq_eq_false_iff_ne.mpr ha'
          have hd' : p0.toList = [100] := by rw [Lib.toList_data]; exact hd
          rw [decide_eq_false ha] at e1
          subst e1
          clear hok ha hd hs hz2
          go_enter Tryd.func32, Tryd.ntmps32
          go_wp2_with (go_at_call 52; refine (HS.out _).mono ?_; rintro e w' ⟨rfl, rfl⟩)
          go_region
          all_goals go_wp2_with fail
          all_goals (go_region_with (go_at_call 34; refine (HR.out _).mono ?_; rintro e w3 ⟨rfl, hb⟩; obtain ⟨c0, c1, c2, d0, d1, d2, z0, z1, z2⟩ := one_after hb))
          all_goals go_wp2
          all_goals (have hbw := one_below hb)
          all_goals (exact bodyPost_ret (v := .tuple #[.agg #[.bool false, .string p1, .string p2], .bool r4]) (by simp [results, Tryd.results32, go_sem, d0, d1, d2]) rfl ⟨rfl, by repeat (first | exact hbw | apply set_below | apply Below.drew)⟩)
      · rw [if_neg hok] at hres
        injection hres with e1 hres; injection hres with e2 hres; injection hres with e3 e4
        subst e1; subst e2; subst e3; subst e4
        have ha' : ¬ p0.toList = [97] := by rw [Lib.toList_data]; exact fun h => hok (.inl h)
        have hd' : ¬ p0.toList = [100] := by rw [Lib.toList_data]; exact fun h => hok (.inr h)
        have ha2 : (p0.toList == [97]) = false := beq_eq_false_iff_ne.mpr ha'
        have hd2 : (p0.toList == [100]) = false := beq_eq_false_iff_ne.mpr hd'
        have ha3 : (p0.toList != [97]) = true := bne_iff_ne.mpr ha'
        have hd3 : (p0.toList != [100]) = true := bne_iff_ne.mpr hd'
        clear hok hs hz2
        go_enter Tryd.func32, Tryd.ntmps32
        go_wp2_with (go_at_call 52; refine (HS.out _).mono ?_; rintro e w' ⟨rfl, rfl⟩)
        exact bodyPost_ret (v := .tuple #[.agg #[.bool false, .string ⟨#[]⟩, .string ⟨#[]⟩], .bool false]) (by simp [results, Tryd.results32, go_sem]) rfl ⟨rfl, ((Below.refl _ _).alloc (Nat.le_refl _) _).alloc (by simp) _⟩
  · rw [if_neg hs] at h; cases h
end Go.Proofs.YtajndnaeknfogaaDoor.Q
