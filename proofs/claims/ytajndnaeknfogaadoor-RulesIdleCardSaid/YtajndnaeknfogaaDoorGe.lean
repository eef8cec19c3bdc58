/- The contract of rules.Idle: the indices of the rules that decide nothing; condition: ASCII kinds, at most 64 rules. -/
import Derived.Test.YtajndnaeknfogaaDoorGd
import Derived.WalkMore
namespace Go.Proofs.YtajndnaeknfogaaDoor.Q
open Go.RowKit Go.Proofs.YtajndnaeknfogaaDoorW.PrintWords Go.Proofs.YtajndnaeknfogaaDoorW.PrintLast Go.Proofs.YtajndnaeknfogaaDoorW.PrintMore
set_option linter.unusedVariables false
set_option linter.unusedSimpArgs false

/-- The kinds that a rule is for. -/
def ownKinds (r : S37) : List UInt8 := if r.f1.data.toList = [] then [112, 115, 113] else r.f1.data.toList
def coverL (r a : S37) : Bool := decide (a.f2 = r.f2) && aboutL a.f1.data.toList (ownKinds r)
def idleAt (l : List S37) (i : Nat) : Bool := (l.take i).any (coverL (l.getD i z37))
def idlesTo (l : List S37) (n : Nat) : List Int := ((List.range n).filter (idleAt l)).map Int.ofNat
def rules_Idle.f (l : List S37) : Option (List Int) := if fineRules l = true ∧ l.length ≤ 64 then some (idlesTo l l.length) else none

theorem idles_next (l : List S37) (k : Nat) : idlesTo l (k + 1) = idlesTo l k ++ if idleAt l k then [(k : Int)] else [] := by
  unfold idlesTo
  rw [List.range_succ, List.filter_append, List.map_append]
  congr 1
  cases h : idleAt l k <;> simp [h]
theorem idles_len (l : List S37) (n : Nat) : (idlesTo l n).length ≤ n := by
  unfold idlesTo
  rw [List.length_map]
  have := List.length_filter_le (idleAt l) (List.range n)
  simpa using this

def ownB (r : S37) : ByteArray := if r.f1.toList = [] then ⟨#[112, 115, 113]⟩ else r.f1
theorem own_eq (r : S37) : (ownB r).data.toList = ownKinds r := by
  unfold ownB ownKinds
  rw [Lib.toList_data]
  split <;> rfl
theorem own_asc {r : S37} (h : ascB r.f1 = true) : ascB (ownB r) = true := by
  unfold ownB
  split
  · decide
  · exact h

theorem box_facts (wr : World) (x : S37) : (wr.alloc (.cells #[.bool x.f0, .string x.f1, .string x.f2] 37)).heap.size = wr.heap.size + 1 ∧ Below wr.heap.size wr (wr.alloc (.cells #[.bool x.f0, .string x.f1, .string x.f2] 37)) ∧
    (wr.alloc (.cells #[.bool x.f0, .string x.f1, .string x.f2] 37)).cell? ⟨wr.heap.size, 2, none⟩ = some (.string x.f2) :=
  ⟨World.size_alloc _ _, (Below.refl _ _).alloc (Nat.le_refl _) _, by simp [go_sem]⟩

set_option maxHeartbeats 4000000 in
set_option maxRecDepth 100000 in
theorem rules_Idle.calls (A0 : Option Addr) (c0 : Nat) (l0 : List S37) (r : List Int) (w : World) (hr0 : Kd.C k37 w A0 l0.length l0) (hc0 : l0.length ≤ c0) (h : rules_Idle.f l0 = some r) :
    Calls Tryd.prog 14 #[.slice A0 l0.length c0] w fun e w' => ∃ v0_, e = .returned v0_ ∧ Kd.R (Kd.int .i64) 3 w' w.heap.size (fun _ => True) v0_ r ∧ Below w.heap.size w w' := by
  unfold rules_Idle.f at h
  by_cases hc : fineRules l0 = true ∧ l0.length ≤ 64
  · rw [if_pos hc] at h
    obtain rfl := Option.some.inj h
    obtain ⟨hfine, h64⟩ := hc
    clear h
    have HF := Aside0.mk hfine
    have HR0 := Aside0.mk hr0
    clear hfine hr0
    have hu37 := Tryd.underlying37
    have hmax : (l0.length : Int) ≤ 9223372036854775807 := by omega
    go_enter Tryd.func14, Tryd.ntmps14
    go_wp2
    go_step3
    go_wp2
    go_step3
    go_wp2
    go_loopw [3, 11] (fun v3 v11 wr => ∃ k : Nat, v11 = .int .i64 k ∧ k ≤ l0.length ∧ Aside0 (Kd.R (Kd.int .i64) 3 wr w.heap.size (fun _ => True) v3 (idlesTo l0 k)) ∧ Aside0 (Below w.heap.size w wr)) (fun _ v11 _ => l0.length - (intOf v11).toNat)
    case atStart => exact ⟨0, rfl, by omega, ⟨Kd.R_nil _ _ _ _ _⟩, ⟨Below.refl _ _⟩⟩
    case round =>
      obtain ⟨k, rfl, hk, HO, HB⟩ := hrel
      obtain ⟨w2, hw2⟩ : ∃ w2, w2 = wr := ⟨_, rfl⟩
      subst hw2
      obtain ⟨q3, hq3⟩ : ∃ q3, q3 = u3 := ⟨_, rfl⟩
      subst hq3
      by_cases hlt : k < l0.length
      · have hat := at_T37 (Kd.C_below HR0.out HB.out) (k : Int) (by omega) (by omega)
        rw [rd_T37_at hlt] at hat
        have hx : l0.getD k z37 = l0[k] := by rw [List.getD_eq_getElem?_getD, List.getElem?_eq_getElem hlt]; rfl
        have hnx := idles_next l0 k
        unfold idleAt at hnx
        rw [hx] at hnx
        have hfx := (fine_at HF.out (List.getElem_mem hlt)).1
        generalize l0[k] = x at *
        obtain ⟨ad, e0, h0, h1, h2⟩ := hat
        cases e0
        simp only [Int.toNat_natCast] at h0 h1 h2
        have HNX := Aside0.mk hnx
        have HFX := Aside0.mk hfx
        clear hnx hx hfx
        have hz : (0 : Int) ≤ (k : Int) := by omega
        have hz2 : (k : Int) < (l0.length : Int) := by omega
        have hcut : ∀ W : World, (Instr.slice 31 (.slice (some ad) l0.length c0) none (some (.int .i64 (k : Int))) none).run Tryd.prog W = .ok (.slice (some ad) k c0) W := by
          obtain ⟨i0, hi0, _⟩ := info_parts info37
          intro W
          have := cut_to (P := Tryd.prog) 31 37 .i64 Tryd.underlying31 hi0 (some ad) l0.length c0 (k : Int) (by omega) (by omega) hc0 W
          simpa using this
        obtain ⟨s, hs⟩ : ∃ s, s = ownB x := ⟨_, rfl⟩
        have HS := Aside0.mk hs
        cases hempty : x.f1.toList.isEmpty
        · have he : ¬ x.f1.toList = [] := by intro h; rw [h] at hempty; simp at hempty
          have SK := Aside0.mk (show ownKinds x = x.f1.data.toList from by unfold ownKinds; rw [← Lib.toList_data, if_neg he])
          go_wp2
          have hbx := box_facts w2 x
          obtain ⟨WB, hWB⟩ : ∃ WB, w2.alloc (.cells #[.bool x.f0, .string x.f1, .string x.f2] 37) = WB := ⟨_, rfl⟩
          rw [hWB] at hbx
          rw [hWB]
          clear hWB
          obtain ⟨hbs, hbb, hb2⟩ := hbx
          have HBS := Aside0.mk hbs
          have HBB := Aside0.mk hbb
          have HB2 := Aside0.mk hb2
          clear hbs hbb hb2 h0 h1 h2
          go_hide hQ
          have HQ := Aside0.mk hQ
          clear hQ
          go_loopw [3, 24] (fun v3 v24 wr => v3 = q3 ∧ ∃ j : Nat, v24 = .int .i64 j ∧ j ≤ k ∧ Aside0 ((l0.take j).any (coverL x) = false) ∧ Aside0 (Below WB.heap.size WB wr)) (fun _ v24 _ => k - (intOf v24).toNat)
          case atStart => exact ⟨rfl, 0, rfl, by omega, ⟨rfl⟩, ⟨Below.refl _ _⟩⟩
          case round =>
            obtain ⟨hv3, j, rfl, hj, HN, HX⟩ := hrel
            subst hv3
            by_cases hjk : j < k
            · have hlj : j < l0.length := by omega
              have hat := at_T37 (Kd.C_below (Kd.C_below (Kd.C_below HR0.out HB.out) HBB.out) HX.out) (j : Int) (by omega) (by omega)
              rw [rd_T37_at hlj] at hat
              have hfy := (fine_at HF.out (List.getElem_mem hlj)).1
              have hnext : (l0.take (j + 1)).any (coverL x) = ((l0.take j).any (coverL x) || coverL x l0[j]) := by rw [List.take_succ_eq_append_getElem hlj, List.any_append]; simp
              have htk : coverL x l0[j] = true → (l0.take k).any (coverL x) = true := fun h => List.any_eq_true.2 ⟨l0[j], by rw [← List.getElem_take (j := k) (h := by simp; omega)]; exact List.getElem_mem _, h⟩
              rw [HN.out, Bool.false_or] at hnext
              generalize l0[j] = y at *
              obtain ⟨ad', e1, g0, g1, g2⟩ := hat
              cases e1
              simp only [Int.toNat_natCast] at g0 g1 g2
              have hb2' : wr.cell? ⟨w2.heap.size, 2, none⟩ = some (.string x.f2) := (HX.out.cell (p := ⟨w2.heap.size, 2, none⟩) (by show w2.heap.size < WB.heap.size; have := HBS.out; omega)).trans HB2.out
              have hlw : w2.heap.size < wr.heap.size := by have := HX.out.size; have := HBS.out; omega
              have hj0 : (0 : Int) ≤ (j : Int) := by omega
              have hj1 : (j : Int) < (k : Int) := by omega
              have HW2 := Aside0.mk (below_step (below_step HB.out HBB.out) HX.out)
              have HO2 := Aside0.mk (Kd.R_below (Kd.R_below HO.out HBB.out) HX.out)
              have HNE := Aside0.mk hnext
              have HTK := Aside0.mk htk
              have hab := about_eq y.f0 y.f1 y.f2 x.f1 hfy HFX.out
              obtain ⟨B, hB⟩ : ∃ B, aboutL y.f1.data.toList (x.f1 : ByteArray).data.toList = B := ⟨_, rfl⟩
              have hcv : coverL x y = (decide (y.f2 = x.f2) && B) := by unfold coverL; rw [← hB, SK.out]
              rw [hB] at hab
              have HA := Aside0.mk hab
              have HCV := Aside0.mk hcv
              clear hab hcv hB hnext htk hfy
              by_cases hwho : y.f2 = x.f2
              · have b2 : decide (y.f2 = x.f2) = true := decide_eq_true hwho
                have HCV' := Aside0.mk (show coverL x y = B from by rw [HCV.out, b2, Bool.true_and])
                have b1 : (x.f2.toList == x.f2.toList) = true := beq_self_eq_true _
                rw [hwho] at g2
                have HA' := Aside0.mk (show rules_Rule_about.f y.f0 y.f1 x.f2 x.f1 = some B from HA.out)
                clear hwho b2 HA
                have HA := HA'
                clear HA'
                cases B
                · have HN2 := Aside0.mk (show (l0.take (j + 1)).any (coverL x) = false from by rw [HNE.out, HCV'.out])
                  go_wp2_with (go_at_call 29; refine (rules_Rule_about.calls y.f0 y.f1 x.f2 x.f1 _ _ HA.out).mono ?_; rintro e w3 ⟨rfl, hb3⟩; have HB3 := Aside0.mk hb3; clear hb3)
                  go_roundw
                  case rel => exact ⟨rfl, j + 1, by go_num, by omega, HN2, ⟨below_step HX.out (below_step ((Below.refl _ wr).alloc (Nat.le_refl _) _) HB3.out)⟩⟩
                  case measure => simp [intOf]; omega
                · have hid : (l0.take k).any (coverL x) = true := HTK.out HCV'.out
                  have hnn := HNX.out
                  rw [hid, if_pos rfl] at hnn
                  have HNN := Aside0.mk hnn
                  clear hid hnn
                  go_wp2_with (first | (go_at_call 29; refine (rules_Rule_about.calls y.f0 y.f1 x.f2 x.f1 _ _ HA.out).mono ?_; rintro e w3 ⟨rfl, hb3⟩; have HB3 := Aside0.mk hb3; clear hb3) | (at_builtin; refine Kd.R_append (Kd.int .i64) (w0 := w) w.heap.size rfl (.tmp 38) (.tmp 40) 40 3 (.int .i64 0) 8 rfl Tryd.underlying40 info3 rfl (by decide) (by omega) _ (idlesTo l0 k) (k : Int) [.int .i64 k] (fun _ => True) (fun _ => False) rfl rfl rfl (fun _ h => h.elim) (fun _ _ => trivial) (Kd.R_below HO2.out (below_step ((Below.refl _ wr).alloc (Nat.le_refl _) _) HB3.out)) (below_step HW2.out (below_step ((Below.refl _ wr).alloc (Nat.le_refl _) _) HB3.out)) (below_size (below_step HW2.out (below_step ((Below.refl _ wr).alloc (Nat.le_refl _) _) HB3.out))) (by have := idles_len l0 k; omega) ?_; intro v4 w4 ho4 hb4 hg4 hat4; have HO4 := Aside0.mk ho4; have HB4 := Aside0.mk hb4; clear ho4 hb4 hg4 hat4))
                  have hQ := HQ.out
                  subst hQ
                  go_wp2
                  go_roundw
                  case rel => exact ⟨k + 1, by go_num, by omega, ⟨by rw [HNN.out]; exact HO4.out⟩, HB4⟩
                  case measure => simp [intOf]; omega
              · have b2 : decide (y.f2 = x.f2) = false := decide_eq_false hwho
                have HN2 := Aside0.mk (show (l0.take (j + 1)).any (coverL x) = false from by rw [HNE.out, HCV.out, b2]; rfl)
                have b3 : ¬ y.f2.toList = x.f2.toList := fun h => hwho (by have h2 : y.f2.data.toList = x.f2.data.toList := by rw [← Lib.toList_data, ← Lib.toList_data]; exact h
                                                                           exact ByteArray.ext (Array.toList_inj.mp h2))
                have b1 : (y.f2.toList == x.f2.toList) = false := beq_eq_false_iff_ne.mpr b3
                clear b2 hwho
                go_wp2
                go_roundw
                case rel => exact ⟨rfl, j + 1, by go_num, by omega, HN2, ⟨below_step HX.out ((Below.refl _ wr).alloc (Nat.le_refl _) _)⟩⟩
                case measure => simp [intOf]; omega
            · obtain rfl : j = k := by omega
              have hnn := HNX.out
              rw [HN.out] at hnn
              have HNN := Aside0.mk hnn
              clear hnn
              have hj1 : (j : Int) ≤ (j : Int) := Int.le_refl _
              go_wp2
              have hQ := HQ.out
              subst hQ
              go_wp2
              go_roundw
              case rel => exact ⟨j + 1, by go_num, by omega, ⟨by rw [HNN.out]; simpa using Kd.R_below (Kd.R_below HO.out HBB.out) HX.out⟩, ⟨below_step (below_step HB.out HBB.out) HX.out⟩⟩
              case measure => simp [intOf]; omega
        · have he : x.f1.toList = [] := List.isEmpty_iff.mp hempty
          have SK := Aside0.mk (show ownKinds x = (⟨#[112, 115, 113]⟩ : ByteArray).data.toList from by unfold ownKinds; rw [← Lib.toList_data, if_pos he])
          go_wp2
          have hbx := box_facts w2 x
          obtain ⟨WB, hWB⟩ : ∃ WB, w2.alloc (.cells #[.bool x.f0, .string x.f1, .string x.f2] 37) = WB := ⟨_, rfl⟩
          rw [hWB] at hbx
          rw [hWB]
          clear hWB
          obtain ⟨hbs, hbb, hb2⟩ := hbx
          have HBS := Aside0.mk hbs
          have HBB := Aside0.mk hbb
          have HB2 := Aside0.mk hb2
          clear hbs hbb hb2 h0 h1 h2
          go_hide hQ
          have HQ := Aside0.mk hQ
          clear hQ
          go_loopw [3, 24] (fun v3 v24 wr => v3 = q3 ∧ ∃ j : Nat, v24 = .int .i64 j ∧ j ≤ k ∧ Aside0 ((l0.take j).any (coverL x) = false) ∧ Aside0 (Below WB.heap.size WB wr)) (fun _ v24 _ => k - (intOf v24).toNat)
          case atStart => exact ⟨rfl, 0, rfl, by omega, ⟨rfl⟩, ⟨Below.refl _ _⟩⟩
          case round =>
            obtain ⟨hv3, j, rfl, hj, HN, HX⟩ := hrel
            subst hv3
            by_cases hjk : j < k
            · have hlj : j < l0.length := by omega
              have hat := at_T37 (Kd.C_below (Kd.C_below (Kd.C_below HR0.out HB.out) HBB.out) HX.out) (j : Int) (by omega) (by omega)
              rw [rd_T37_at hlj] at hat
              have hfy := (fine_at HF.out (List.getElem_mem hlj)).1
              have hnext : (l0.take (j + 1)).any (coverL x) = ((l0.take j).any (coverL x) || coverL x l0[j]) := by rw [List.take_succ_eq_append_getElem hlj, List.any_append]; simp
              have htk : coverL x l0[j] = true → (l0.take k).any (coverL x) = true := fun h => List.any_eq_true.2 ⟨l0[j], by rw [← List.getElem_take (j := k) (h := by simp; omega)]; exact List.getElem_mem _, h⟩
              rw [HN.out, Bool.false_or] at hnext
              generalize l0[j] = y at *
              obtain ⟨ad', e1, g0, g1, g2⟩ := hat
              cases e1
              simp only [Int.toNat_natCast] at g0 g1 g2
              have hb2' : wr.cell? ⟨w2.heap.size, 2, none⟩ = some (.string x.f2) := (HX.out.cell (p := ⟨w2.heap.size, 2, none⟩) (by show w2.heap.size < WB.heap.size; have := HBS.out; omega)).trans HB2.out
              have hlw : w2.heap.size < wr.heap.size := by have := HX.out.size; have := HBS.out; omega
              have hj0 : (0 : Int) ≤ (j : Int) := by omega
              have hj1 : (j : Int) < (k : Int) := by omega
              have HW2 := Aside0.mk (below_step (below_step HB.out HBB.out) HX.out)
              have HO2 := Aside0.mk (Kd.R_below (Kd.R_below HO.out HBB.out) HX.out)
              have HNE := Aside0.mk hnext
              have HTK := Aside0.mk htk
              have hab := about_eq y.f0 y.f1 y.f2 ⟨#[112, 115, 113]⟩ hfy (by decide)
              obtain ⟨B, hB⟩ : ∃ B, aboutL y.f1.data.toList (⟨#[112, 115, 113]⟩ : ByteArray).data.toList = B := ⟨_, rfl⟩
              have hcv : coverL x y = (decide (y.f2 = x.f2) && B) := by unfold coverL; rw [← hB, SK.out]
              rw [hB] at hab
              have HA := Aside0.mk hab
              have HCV := Aside0.mk hcv
              clear hab hcv hB hnext htk hfy
              by_cases hwho : y.f2 = x.f2
              · have b2 : decide (y.f2 = x.f2) = true := decide_eq_true hwho
                have HCV' := Aside0.mk (show coverL x y = B from by rw [HCV.out, b2, Bool.true_and])
                have b1 : (x.f2.toList == x.f2.toList) = true := beq_self_eq_true _
                rw [hwho] at g2
                have HA' := Aside0.mk (show rules_Rule_about.f y.f0 y.f1 x.f2 ⟨#[112, 115, 113]⟩ = some B from HA.out)
                clear hwho b2 HA
                have HA := HA'
                clear HA'
                cases B
                · have HN2 := Aside0.mk (show (l0.take (j + 1)).any (coverL x) = false from by rw [HNE.out, HCV'.out])
                  go_wp2_with (go_at_call 29; refine (rules_Rule_about.calls y.f0 y.f1 x.f2 ⟨#[112, 115, 113]⟩ _ _ HA.out).mono ?_; rintro e w3 ⟨rfl, hb3⟩; have HB3 := Aside0.mk hb3; clear hb3)
                  go_roundw
                  case rel => exact ⟨rfl, j + 1, by go_num, by omega, HN2, ⟨below_step HX.out (below_step ((Below.refl _ wr).alloc (Nat.le_refl _) _) HB3.out)⟩⟩
                  case measure => simp [intOf]; omega
                · have hid : (l0.take k).any (coverL x) = true := HTK.out HCV'.out
                  have hnn := HNX.out
                  rw [hid, if_pos rfl] at hnn
                  have HNN := Aside0.mk hnn
                  clear hid hnn
                  go_wp2_with (first | (go_at_call 29; refine (rules_Rule_about.calls y.f0 y.f1 x.f2 ⟨#[112, 115, 113]⟩ _ _ HA.out).mono ?_; rintro e w3 ⟨rfl, hb3⟩; have HB3 := Aside0.mk hb3; clear hb3) | (at_builtin; refine Kd.R_append (Kd.int .i64) (w0 := w) w.heap.size rfl (.tmp 38) (.tmp 40) 40 3 (.int .i64 0) 8 rfl Tryd.underlying40 info3 rfl (by decide) (by omega) _ (idlesTo l0 k) (k : Int) [.int .i64 k] (fun _ => True) (fun _ => False) rfl rfl rfl (fun _ h => h.elim) (fun _ _ => trivial) (Kd.R_below HO2.out (below_step ((Below.refl _ wr).alloc (Nat.le_refl _) _) HB3.out)) (below_step HW2.out (below_step ((Below.refl _ wr).alloc (Nat.le_refl _) _) HB3.out)) (below_size (below_step HW2.out (below_step ((Below.refl _ wr).alloc (Nat.le_refl _) _) HB3.out))) (by have := idles_len l0 k; omega) ?_; intro v4 w4 ho4 hb4 hg4 hat4; have HO4 := Aside0.mk ho4; have HB4 := Aside0.mk hb4; clear ho4 hb4 hg4 hat4))
                  have hQ := HQ.out
                  subst hQ
                  go_wp2
                  go_roundw
                  case rel => exact ⟨k + 1, by go_num, by omega, ⟨by rw [HNN.out]; exact HO4.out⟩, HB4⟩
                  case measure => simp [intOf]; omega
              · have b2 : decide (y.f2 = x.f2) = false := decide_eq_false hwho
                have HN2 := Aside0.mk (show (l0.take (j + 1)).any (coverL x) = false from by rw [HNE.out, HCV.out, b2]; rfl)
                have b3 : ¬ y.f2.toList = x.f2.toList := fun h => hwho (by have h2 : y.f2.data.toList = x.f2.data.toList := by rw [← Lib.toList_data, ← Lib.toList_data]; exact h
                                                                           exact ByteArray.ext (Array.toList_inj.mp h2))
                have b1 : (y.f2.toList == x.f2.toList) = false := beq_eq_false_iff_ne.mpr b3
                clear b2 hwho
                go_wp2
                go_roundw
                case rel => exact ⟨rfl, j + 1, by go_num, by omega, HN2, ⟨below_step HX.out ((Below.refl _ wr).alloc (Nat.le_refl _) _)⟩⟩
                case measure => simp [intOf]; omega
            · obtain rfl : j = k := by omega
              have hnn := HNX.out
              rw [HN.out] at hnn
              have HNN := Aside0.mk hnn
              clear hnn
              have hj1 : (j : Int) ≤ (j : Int) := Int.le_refl _
              go_wp2
              have hQ := HQ.out
              subst hQ
              go_wp2
              go_roundw
              case rel => exact ⟨j + 1, by go_num, by omega, ⟨by rw [HNN.out]; simpa using Kd.R_below (Kd.R_below HO.out HBB.out) HX.out⟩, ⟨below_step (below_step HB.out HBB.out) HX.out⟩⟩
              case measure => simp [intOf]; omega
      · have hz2 : (l0.length : Int) ≤ (k : Int) := by omega
        obtain rfl : k = l0.length := by omega
        go_wp2
        rw [Exit.noGoto_ret]
        go_ret
        exact ⟨_, rfl, HO.out, HB.out⟩
  · rw [if_neg hc] at h; cases h
end Go.Proofs.YtajndnaeknfogaaDoor.Q
