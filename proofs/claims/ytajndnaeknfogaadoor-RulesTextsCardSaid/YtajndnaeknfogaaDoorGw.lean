/- The contract of the reference's Write: the text of rules, or that there is none; condition: last parts of at most 2^63 - 1 bytes. -/
import Derived.Test.YtajndnaeknfogaaDoorGg
namespace Go.Proofs.YtajndnaeknfogaaDoor.Q
open Go.RowKit Go.Proofs.YtajndnaeknfogaaDoorW.PrintWords Go.Proofs.YtajndnaeknfogaaDoorW.PrintLast Go.Proofs.YtajndnaeknfogaaDoorW.PrintMore
set_option linter.unusedVariables false
set_option linter.unusedSimpArgs false

def okRule (x : S35) : Bool := kindsL x.f1.data.toList && whoL x.f2.data.toList
def stepW (acc : ByteArray) (first : Bool) (x : S35) : ByteArray :=
  ((if first then acc else acc ++ (⟨#[59]⟩ : ByteArray)) ++ (if x.f0 then (⟨#[97]⟩ : ByteArray) else (⟨#[100]⟩ : ByteArray))) ++ ((((⟨#[58]⟩ : ByteArray) ++ x.f1) ++ (⟨#[58]⟩ : ByteArray)) ++ x.f2)
def txtFrom : List S35 → ByteArray → Bool → ByteArray
  | [], acc, _ => acc
  | x :: l, acc, b => txtFrom l (stepW acc b x) false
def rightW (l : List S35) : Bool := decide (l.length ≤ 32) && l.all okRule
def fineW (l : List S35) : Bool := l.all (fun x => decide (x.f2.size ≤ 9223372036854775807))
def tidewaterref24_Write.f (l0 : List S35) : Option (ByteArray × Int) :=
  if fineW l0 = true then some (if rightW l0 then (txtFrom l0 ⟨#[]⟩ true, 0) else (⟨#[]⟩, 3)) else none

theorem userL_len {l : List UInt8} (h : userL l = true) : l.length ≤ 16 := by
  unfold userL at h; simp only [Bool.and_eq_true, decide_eq_true_eq] at h; exact h.1.2
theorem okL_len {l : List UInt8} (h : okL l = true) : l.length ≤ 33 := by
  unfold okL at h
  simp only [Bool.and_eq_true, Bool.or_eq_true] at h
  have hp := congrArg List.length (pre_post l)
  have h1 := userL_len h.1
  rw [List.length_append] at hp
  cases hh : hasL l
  · rw [hh] at hp; simp at hp; omega
  · rw [hh] at hp h
    have h2 : userL (postL l) = true := by simpa using h.2
    have := userL_len h2
    simp at hp; omega
theorem stateIx_len {l : List UInt8} (h : 0 ≤ stateIx l) : l.length ≤ 33 := by
  unfold stateIx at h
  by_cases h1 : l = [64, 110, 111, 110, 101]
  · subst h1; decide
  · by_cases h2 : l = [64, 116, 111]
    · subst h2; decide
    · by_cases h3 : l = [64, 102, 114, 111, 109]
      · subst h3; decide
      · by_cases h4 : l = [64, 98, 111, 116, 104]
        · subst h4; decide
        · rw [if_neg h1, if_neg h2, if_neg h3, if_neg h4] at h; omega
theorem whoL_len {l : List UInt8} (h : whoL l = true) : l.length ≤ 33 := by
  unfold whoL at h
  cases hst : starL l <;> rw [hst] at h
  · simp only [Bool.false_eq_true, if_false, Bool.or_eq_true, decide_eq_true_eq] at h
    rcases h with h | h
    · exact okL_len h
    · exact stateIx_len h
  · simp only [if_true, Bool.or_eq_true, decide_eq_true_eq] at h
    rcases h with h | h
    · have := congrArg List.length h; rw [List.length_dropLast] at this; simp at this; omega
    · have := userL_len h; rw [List.length_dropLast] at this; omega
theorem kindsL_len {l : List UInt8} (h : kindsL l = true) : l.length ≤ 3 := by
  unfold kindsL at h
  have h := of_decide_eq_true h
  simp only [List.mem_cons, List.not_mem_nil, or_false] at h
  rcases h with rfl | rfl | rfl | rfl | rfl | rfl | rfl | rfl <;> decide
theorem txt_drop {l : List S35} {k : Nat} (h : k < l.length) (acc : ByteArray) (b : Bool) : txtFrom (l.drop k) acc b = txtFrom (l.drop (k + 1)) (stepW acc b l[k]) false := by
  rw [List.drop_eq_getElem_cons h]; rfl
theorem right_no {l : List S35} {k : Nat} (h : k < l.length) (hb : okRule l[k] = false) : rightW l = false := by
  unfold rightW
  rw [Bool.and_eq_false_iff]; right
  rw [List.all_eq_false]; exact ⟨l[k], List.getElem_mem h, by rw [hb]; decide⟩

theorem step_size {a b c : ByteArray} {k : Nat} (first : Bool) (ha : a.size ≤ 100 * k) (h1 : b.size ≤ 3) (h2 : c.size ≤ 33) (d : ByteArray) (hd : d.size = 1) :
    (((if first then a else a ++ (⟨#[59]⟩ : ByteArray)) ++ d) ++ ((((⟨#[58]⟩ : ByteArray) ++ b) ++ (⟨#[58]⟩ : ByteArray)) ++ c)).size ≤ 100 * (k + 1) := by
  have s1 : (⟨#[59]⟩ : ByteArray).size = 1 := rfl
  have s2 : (⟨#[58]⟩ : ByteArray).size = 1 := rfl
  cases first <;> simp only [if_true, Bool.false_eq_true, if_false, ByteArray.size_append, s1, s2, hd] <;> omega
theorem cells_after {w w4 : World} {ad : Addr} {a b c : Value} (h0 : w.cell? ad = some a) (h1 : w.cell? ⟨ad.block, ad.off + 1, none⟩ = some b) (h2 : w.cell? ⟨ad.block, ad.off + 2, none⟩ = some c)
    (hb : Below w.heap.size w w4) : w4.cell? ad = some a ∧ w4.cell? ⟨ad.block, ad.off + 1, none⟩ = some b ∧ w4.cell? ⟨ad.block, ad.off + 2, none⟩ = some c := by
  have hl := World.block_lt_of_cell? _ _ h0
  exact ⟨(hb.cell hl).trans h0, (hb.cell (p := ⟨ad.block, ad.off + 1, none⟩) hl).trans h1, (hb.cell (p := ⟨ad.block, ad.off + 2, none⟩) hl).trans h2⟩

set_option maxHeartbeats 8000000 in
set_option maxRecDepth 100000 in
theorem tidewaterref24_Write.calls (A0 : Option Addr) (c0 : Nat) (l0 : List S35) (r1 : ByteArray) (r2 : Int) (w : World) (hr0 : Kd.C k35 w A0 l0.length l0) (hc0 : l0.length ≤ c0) (h : tidewaterref24_Write.f l0 = some (r1, r2)) :
    Calls Tryd.prog 20 #[.slice A0 l0.length c0] w fun e w' => e = .returned (.tuple #[.string r1, .int .i64 r2]) ∧ Below w.heap.size w w' := by
  unfold tidewaterref24_Write.f at h
  by_cases hs : fineW l0 = true
  · rw [if_pos hs] at h
    have HRES := Aside0.mk (Option.some.inj h)
    clear h
    have hmax := Kd.C_max hr0
    have HR0 := Aside0.mk hr0
    have HC0 := Aside0.mk hc0
    have HS := Aside0.mk hs
    have hu35 := Tryd.underlying35
    clear hr0 hc0 hs
    go_enter Tryd.func20, Tryd.ntmps20
    go_wp2
    go_loopw [4, 5] (fun v4 v5 wr => ∃ (k : Nat) (acc : ByteArray), v4 = .string acc ∧ v5 = .int .i64 k ∧ k ≤ l0.length ∧ Aside0 (0 < k → l0.length ≤ 32) ∧ acc.size ≤ 100 * k ∧ Aside0 ((l0.take k).all okRule = true) ∧
      Aside0 (txtFrom (l0.drop k) acc (decide (k = 0)) = txtFrom l0 ⟨#[]⟩ true) ∧ Aside0 (Below w.heap.size w wr)) (fun _ v5 _ => l0.length - (intOf v5).toNat)
    case atStart => exact ⟨0, ⟨#[]⟩, rfl, rfl, by omega, ⟨fun h => absurd h (by omega)⟩, by decide, ⟨rfl⟩, ⟨rfl⟩, ⟨Below.refl _ _⟩⟩
    case round =>
      obtain ⟨k, acc, rfl, rfl, hk, hk32, hacc, hok, htx, HB⟩ := hrel
      by_cases hlt : k < l0.length
      · have hd := txt_drop hlt acc (decide (k = 0))
        rw [htx.out] at hd
        have hat := at_T35 (Kd.C_below HR0.out HB.out) (k : Int) (by omega) (by omega)
        rw [rd_T35_at hlt] at hat
        have hno := Aside0.mk (fun hb => right_no (l := l0) hlt hb)
        have hfx : (l0[k]).f2.size ≤ 9223372036854775807 := of_decide_eq_true (List.all_eq_true.mp HS.out _ (List.getElem_mem hlt))
        have hoks := Aside0.mk (show okRule l0[k] = true → (l0.take (k + 1)).all okRule = true from fun hx => by rw [List.take_succ_eq_append_getElem hlt, List.all_append, hok.out]; simp [hx])
        generalize l0[k] = x at *
        obtain ⟨ad, e0, h0, h1, h2⟩ := hat
        cases e0
        simp only [Int.toNat_natCast] at h0 h1 h2
        have HDr := Aside0.mk hd
        clear hd htx hok
        have hz : (0 : Int) ≤ (k : Int) := by omega
        have hz2 : (k : Int) < (l0.length : Int) := by omega
        obtain ⟨kk, hkk⟩ := (kindsR_ev x.f1).rounds
        have cK := fun W => tidewaterref24_kinds.calls kk x.f1 _ W hkk
        by_cases h32 : l0.length ≤ 32
        · have b32 : decide ((32 : Int) < (l0.length : Int)) = false := decide_eq_false (by omega)
          have b32' : (l0.length : Int) ≤ 32 := by omega
          cases hkd : kindsL x.f1.data.toList
          · rw [hkd] at cK
            have hres := HRES.out
            rw [hno.out (by unfold okRule; rw [hkd]; rfl)] at hres
            obtain ⟨rfl, rfl⟩ := Prod.mk.inj hres
            have HK := Aside0.mk cK
            clear hres HRES hkk cK h32 hkd
            go_wp2_with (go_at_call 37; refine (HK.out _).mono ?_; rintro e w3 ⟨rfl, hb3⟩)
            go_ret2
            exact ⟨rfl, HB.out.trans (hb3.mono HB.out.size)⟩
          · rw [hkd] at cK
            have HK := Aside0.mk cK
            cases hwh : whoL x.f2.data.toList
            · have cW := fun W => tidewaterref24_who.calls x.f2 false W (by unfold tidewaterref24_who.f; rw [if_pos hfx, hwh])
              have HW := Aside0.mk cW
              have hres := HRES.out
              rw [hno.out (by unfold okRule; rw [hkd, hwh]; rfl)] at hres
              obtain ⟨rfl, rfl⟩ := Prod.mk.inj hres
              clear hres HRES hkk cK h32 hkd hwh cW
              go_wp2_with (first | (go_at_call 37; refine (HK.out _).mono ?_; rintro e w3 ⟨rfl, hb3⟩; obtain ⟨g0, g1, g2⟩ := cells_after h0 h1 h2 hb3) | (go_at_call 38; refine (HW.out _).mono ?_; rintro e w4 ⟨rfl, hb4⟩))
              go_ret2
              exact ⟨rfl, HB.out.trans ((hb3.trans (hb4.mono hb3.size)).mono HB.out.size)⟩
            · have cW := fun W => tidewaterref24_who.calls x.f2 true W (by unfold tidewaterref24_who.f; rw [if_pos hfx, hwh])
              have HW := Aside0.mk cW
              have HO : Aside0 ((l0.take (k + 1)).all okRule = true) := ⟨hoks.out (by unfold okRule; rw [hkd, hwh]; rfl)⟩
              have z1 : x.f1.size ≤ 3 := by rw [← size_list]; exact kindsL_len hkd
              have z2 : x.f2.size ≤ 33 := by rw [← size_list]; exact whoL_len hwh
              clear hkk cK hkd hwh cW
              have h32' := Aside0.mk h32
              have hkb : k ≤ 32 := by omega
              have hsa : acc.size ≤ 3200 := by omega
              clear h32
              by_cases hk0 : k = 0
              · have hk2 : decide ((0 : Int) < (k : Int)) = false := decide_eq_false (by omega)
                have hk2' : (k : Int) ≤ 0 := by omega
                have hk3 : decide (0 < k) = false := decide_eq_false (by omega)
                cases hal : x.f0
                · have hst : stepW acc (decide (k = 0)) x = ((acc ++ (⟨#[100]⟩ : ByteArray)) ++ ((((⟨#[58]⟩ : ByteArray) ++ x.f1) ++ (⟨#[58]⟩ : ByteArray)) ++ x.f2)) := by unfold stepW; rw [hal, decide_eq_true hk0]; rfl
                  rw [hst] at HDr
                  have hsz := step_size (a := acc) (k := k) true hacc z1 z2 (⟨#[100]⟩ : ByteArray) rfl
                  have HSZ := Aside0.mk hsz
                  rw [hal] at h0
                  clear hst hal hsz hk0
                  go_wp2_with (first | (go_at_call 37; refine (HK.out _).mono ?_; rintro e w3 ⟨rfl, hb3⟩; obtain ⟨g0, g1, g2⟩ := cells_after h0 h1 h2 hb3) | (go_at_call 38; refine (HW.out _).mono ?_; rintro e w4 ⟨rfl, hb4⟩; obtain ⟨h0', h1', h2'⟩ := cells_after g0 g1 g2 hb4))
                  go_quiet (fail)
                  go_wp2
                  go_roundw
                  case rel => exact ⟨k + 1, _, rfl, by go_num, by omega, ⟨fun _ => h32'.out⟩, HSZ.out, HO, ⟨by rw [decide_eq_false (by omega)]; exact HDr.out.symm⟩, ⟨pw_below_drewN (HB.out.trans ((hb3.trans (hb4.mono hb3.size)).mono HB.out.size)) _⟩⟩
                  case measure => simp [intOf]; omega
                · have hst : stepW acc (decide (k = 0)) x = ((acc ++ (⟨#[97]⟩ : ByteArray)) ++ ((((⟨#[58]⟩ : ByteArray) ++ x.f1) ++ (⟨#[58]⟩ : ByteArray)) ++ x.f2)) := by unfold stepW; rw [hal, decide_eq_true hk0]; rfl
                  rw [hst] at HDr
                  have hsz := step_size (a := acc) (k := k) true hacc z1 z2 (⟨#[97]⟩ : ByteArray) rfl
                  have HSZ := Aside0.mk hsz
                  rw [hal] at h0
                  clear hst hal hsz hk0
                  go_wp2_with (first | (go_at_call 37; refine (HK.out _).mono ?_; rintro e w3 ⟨rfl, hb3⟩; obtain ⟨g0, g1, g2⟩ := cells_after h0 h1 h2 hb3) | (go_at_call 38; refine (HW.out _).mono ?_; rintro e w4 ⟨rfl, hb4⟩; obtain ⟨h0', h1', h2'⟩ := cells_after g0 g1 g2 hb4))
                  go_quiet (fail)
                  go_wp2
                  go_roundw
                  case rel => exact ⟨k + 1, _, rfl, by go_num, by omega, ⟨fun _ => h32'.out⟩, HSZ.out, HO, ⟨by rw [decide_eq_false (by omega)]; exact HDr.out.symm⟩, ⟨pw_below_drewN (HB.out.trans ((hb3.trans (hb4.mono hb3.size)).mono HB.out.size)) _⟩⟩
                  case measure => simp [intOf]; omega
              · have hk1 : (0 : Int) < (k : Int) := by omega
                have hk2 : decide ((0 : Int) < (k : Int)) = true := decide_eq_true hk1
                cases hal : x.f0
                · have hst : stepW acc (decide (k = 0)) x = (((acc ++ (⟨#[59]⟩ : ByteArray)) ++ (⟨#[100]⟩ : ByteArray)) ++ ((((⟨#[58]⟩ : ByteArray) ++ x.f1) ++ (⟨#[58]⟩ : ByteArray)) ++ x.f2)) := by unfold stepW; rw [hal, decide_eq_false hk0]; rfl
                  rw [hst] at HDr
                  have hsz := step_size (a := acc) (k := k) false hacc z1 z2 (⟨#[100]⟩ : ByteArray) rfl
                  have HSZ := Aside0.mk hsz
                  rw [hal] at h0
                  clear hst hal hsz hk0
                  go_wp2_with (first | (go_at_call 37; refine (HK.out _).mono ?_; rintro e w3 ⟨rfl, hb3⟩; obtain ⟨g0, g1, g2⟩ := cells_after h0 h1 h2 hb3) | (go_at_call 38; refine (HW.out _).mono ?_; rintro e w4 ⟨rfl, hb4⟩; obtain ⟨h0', h1', h2'⟩ := cells_after g0 g1 g2 hb4))
                  go_quiet (fail)
                  go_wp2
                  go_roundw
                  case rel => exact ⟨k + 1, _, rfl, by go_num, by omega, ⟨fun _ => h32'.out⟩, HSZ.out, HO, ⟨by rw [decide_eq_false (by omega)]; exact HDr.out.symm⟩, ⟨pw_below_drewN (HB.out.trans ((hb3.trans (hb4.mono hb3.size)).mono HB.out.size)) _⟩⟩
                  case measure => simp [intOf]; omega
                · have hst : stepW acc (decide (k = 0)) x = (((acc ++ (⟨#[59]⟩ : ByteArray)) ++ (⟨#[97]⟩ : ByteArray)) ++ ((((⟨#[58]⟩ : ByteArray) ++ x.f1) ++ (⟨#[58]⟩ : ByteArray)) ++ x.f2)) := by unfold stepW; rw [hal, decide_eq_false hk0]; rfl
                  rw [hst] at HDr
                  have hsz := step_size (a := acc) (k := k) false hacc z1 z2 (⟨#[97]⟩ : ByteArray) rfl
                  have HSZ := Aside0.mk hsz
                  rw [hal] at h0
                  clear hst hal hsz hk0
                  go_wp2_with (first | (go_at_call 37; refine (HK.out _).mono ?_; rintro e w3 ⟨rfl, hb3⟩; obtain ⟨g0, g1, g2⟩ := cells_after h0 h1 h2 hb3) | (go_at_call 38; refine (HW.out _).mono ?_; rintro e w4 ⟨rfl, hb4⟩; obtain ⟨h0', h1', h2'⟩ := cells_after g0 g1 g2 hb4))
                  go_quiet (fail)
                  go_wp2
                  go_roundw
                  case rel => exact ⟨k + 1, _, rfl, by go_num, by omega, ⟨fun _ => h32'.out⟩, HSZ.out, HO, ⟨by rw [decide_eq_false (by omega)]; exact HDr.out.symm⟩, ⟨pw_below_drewN (HB.out.trans ((hb3.trans (hb4.mono hb3.size)).mono HB.out.size)) _⟩⟩
                  case measure => simp [intOf]; omega
        · have b32 : decide ((32 : Int) < (l0.length : Int)) = true := decide_eq_true (by omega)
          have b32' : (32 : Int) < (l0.length : Int) := by omega
          have hres := HRES.out
          rw [show rightW l0 = false by unfold rightW; rw [decide_eq_false h32]; rfl] at hres
          obtain ⟨rfl, rfl⟩ := Prod.mk.inj hres
          clear hres HRES hkk cK h32
          go_wp2
          go_ret2
          exact ⟨rfl, HB.out⟩
      · have hkl : k = l0.length := by omega
        have ht := htx.out
        rw [hkl, List.drop_of_length_le (Nat.le_refl _)] at ht
        have hr : rightW l0 = true := by
          unfold rightW
          have ho := hok.out
          rw [hkl, List.take_of_length_le (Nat.le_refl _)] at ho
          rw [ho, Bool.and_true]
          by_cases h0 : 0 < k
          · exact decide_eq_true (hk32.out h0)
          · exact decide_eq_true (by omega)
        have hres := HRES.out
        rw [hr] at hres
        obtain ⟨e1, e2⟩ := Prod.mk.inj hres
        have HT : Aside0 (acc = r1) := ⟨by rw [← e1, ← ht]; rfl⟩
        have HE := Aside0.mk e2
        have hz2 : (l0.length : Int) ≤ (k : Int) := by omega
        clear ht hr hres e1 e2 htx hok hkl HRES
        go_wp2
        go_ret2
        exact ⟨by rw [← HT.out, ← HE.out]; rfl, HB.out⟩
  · rw [if_neg hs] at h; cases h
end Go.Proofs.YtajndnaeknfogaaDoor.Q
